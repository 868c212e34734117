/-
  OUR OWN, PRINTED BY A PROGRAM OF OURS (table2.py): the table of the functions, and what each comes to.
-/
import Derived.Test.YtomofgclaiaikaaBmRun
import Derived.Test.YtomofgclaiaikaaProg
import Derived.KernelRfl
namespace Go.Proofs.Ytomofgclaiaikaa.R
open Go Go.Bm Go.Proofs
set_option linter.unusedVariables false
set_option linter.unusedSimpArgs false
set_option maxRecDepth 100000

abbrev XN : Type := Int × Int × Int × Int × Int × List UInt8
abbrev XNc : CT := (.prod (.int .i64) (.prod (.int .i64) (.prod (.int .i64) (.prod (.int .i64) (.prod (.int .i64) .str)))))
abbrev XL : Type := List XN
abbrev XLc : CT := (.list XNc)
abbrev XP : Type := List (List UInt8 × Int)
abbrev XPc : CT := (.list (.prod .str (.int .i64)))
abbrev XI : Type := Int × List UInt8 × Int × XL × XL × List XL
abbrev XIc : CT := (.prod (.int .i64) (.prod .str (.prod (.int .i64) (.prod XLc (.prod XLc (.list XLc))))))
abbrev XU : Type := Bool × List UInt8 × XP × List UInt8 × Int × XP × List (List UInt8 × XL) × List XI
abbrev XUc : CT := (.prod .bool (.prod .str (.prod XPc (.prod .str (.prod (.int .i64) (.prod XPc (.prod (.list (.prod .str XLc)) (.list XIc))))))))
noncomputable def tabs : Tabs := {
  tabL := [(3, .leaf (.int .i64 0)),
  (4, .leaf (.bool false)),
  (5, .leaf (.int .u8 0)),
  (9, .leaf (.str [])),
  (23, .slice XNc 35),
  (24, .slice (.prod .str (.int .i64)) 49),
  (25, .slice XUc 53),
  (28, .struct [(0, 1, false), (1, 1, false), (2, 1, false)] [.nils, .str [], .str []]),
  (30, .leaf (.int .i64 0)),
  (35, .struct [(0, 1, false), (1, 1, false), (2, 1, false), (3, 1, false), (4, 1, false), (5, 1, false)] [.int .i64 0, .int .i64 0, .int .i64 0, .int .i64 0, .int .i64 0, .str []]),
  (39, .struct [(0, 1, false), (1, 1, false), (2, 1, false), (3, 1, false)] [.nils, .nils, .nils, .str []]),
  (42, .slice .str 9),
  (43, .slice XLc 23),
  (49, .struct [(0, 1, false), (1, 1, false)] [.str [], .int .i64 0]),
  (50, .slice (.prod .str XLc) 55),
  (51, .slice XIc 57),
  (53, .struct [(0, 1, false), (1, 1, false), (2, 1, false), (3, 2, true), (5, 1, false), (6, 1, false), (7, 1, false)] [.bool false, .str [], .nils, .str [], .int .i64 0, .nils, .nils, .nils]),
  (55, .struct [(0, 1, false), (1, 1, false)] [.str [], .nils]),
  (57, .struct [(0, 1, false), (1, 1, false), (2, 1, false), (3, 1, false), (4, 1, false), (5, 1, false)] [.int .i64 0, .str [], .int .i64 0, .nils, .nils, .nils]),
  (60, .struct [(0, 1, false), (1, 1, false)] [.int .i64 0, .int .i64 0]),
  (66, .struct [(0, 1, false), (1, 1, false)] [.nils, .nils]),
  (67, .slice (.int .i64) 3),
  (80, .slice (.prod (.int .i64) (.prod .str (.int .i64))) 109),
  (85, .struct [(0, 1, false), (1, 1, false), (2, 2, true)] [.nils, .int .i64 0, .int .i64 0, .int .i64 0]),
  (93, .slice .bool 4),
  (102, .struct [(0, 1, false), (1, 1, false)] [.int .i64 0, .int .i64 0]),
  (103, .arr (.prod (.int .i64) (.int .i64)) 26 true [.int .i64 0, .int .i64 0, .int .i64 0, .int .i64 0, .int .i64 0, .int .i64 0, .int .i64 0, .int .i64 0, .int .i64 0, .int .i64 0, .int .i64 0, .int .i64 0, .int .i64 0, .int .i64 0, .int .i64 0, .int .i64 0, .int .i64 0, .int .i64 0, .int .i64 0, .int .i64 0, .int .i64 0, .int .i64 0, .int .i64 0, .int .i64 0, .int .i64 0, .int .i64 0, .int .i64 0, .int .i64 0, .int .i64 0, .int .i64 0, .int .i64 0, .int .i64 0, .int .i64 0, .int .i64 0, .int .i64 0, .int .i64 0, .int .i64 0, .int .i64 0, .int .i64 0, .int .i64 0, .int .i64 0, .int .i64 0, .int .i64 0, .int .i64 0, .int .i64 0, .int .i64 0, .int .i64 0, .int .i64 0, .int .i64 0, .int .i64 0, .int .i64 0, .int .i64 0]),
  (109, .struct [(0, 1, false), (1, 1, false), (2, 1, false)] [.int .i64 0, .str [], .int .i64 0]),
  (126, .struct [(0, 1, false), (1, 1, false), (2, 1, false), (3, 2, true)] [.nils, .int .i64 0, .int .i64 0, .int .i64 0, .int .i64 0]),
  (133, .leaf (.nilp)),
  (134, .slice .unit 133)]
  eqtL := [35, 60]
  keysL := [(3, [0]), (4, [105]), (5, [108]), (6, [109]), (7, [97]), (8, [1]), (9, [44]), (10, [98]), (11, [104]), (12, [28]), (13, [106]), (14, [99]), (15, [2]), (16, [63]), (17, [86]), (18, [45]), (19, [53]), (20, [55]), (21, [103]), (22, [29]), (23, [30]), (24, [31]), (25, [33]), (26, [107]), (27, [100]), (28, [101]), (29, [102]), (30, [43]), (31, [3]), (32, [4]), (33, [64, 70]), (34, [66, 77]), (35, [68]), (36, [76]), (37, [72]), (38, [69]), (39, [65, 71]), (40, [67, 74]), (41, [87]), (42, [46]), (43, [47]), (44, [49]), (45, [51]), (46, [54]), (47, [56, 94]), (48, [57]), (49, [58]), (50, [59]), (51, [60]), (52, [62]), (53, [32]), (54, [15]), (55, [5]), (56, [75]), (57, [79]), (58, [78]), (59, [84]), (60, [85]), (61, [73]), (62, [26]), (63, [88]), (64, [89]), (65, [90, 92]), (66, [95]), (67, [91, 93, 96]), (68, [48]), (69, [50]), (70, [52]), (71, [61]), (72, [16]), (73, [6]), (74, [7]), (75, [8]), (76, [9]), (77, [13]), (78, [80]), (79, [81]), (80, [82]), (81, [17]), (82, [35]), (83, [42]), (84, [10]), (85, [12]), (86, [14]), (87, [83]), (88, [18]), (89, [36]), (90, [11]), (91, [19]), (92, [20]), (93, [21]), (94, [22]), (95, [23]), (96, [24]), (97, [25]), (98, [27]), (99, [34]), (100, [39]), (101, [40]), (102, [38]), (103, [41]), (104, [37])]
  lendL := [44]
  kinL := [⟨[], [.one (.pl XLc), .one (.pl XPc), .one (.pl (.list XUc))]⟩,
  ⟨[], []⟩,
  ⟨[], [.one (.pl .str)]⟩,
  ⟨[], [.one (.pl .str)]⟩,
  ⟨[], [.one (.pl .str)]⟩,
  ⟨[], [.one (.pl .str), .one (.pl (.int .i64))]⟩,
  ⟨[], [.one (.pl (.int .u8))]⟩,
  ⟨[], [.one (.pl .str)]⟩,
  ⟨[], [.one (.pl (.int .u8))]⟩,
  ⟨[], [.one (.pl .str), .one (.pl (.int .i64))]⟩,
  ⟨[], [.one (.pl .str)]⟩,
  ⟨[], []⟩,
  ⟨[], [.one (.pl .str)]⟩,
  ⟨[], [.one (.pl .str)]⟩,
  ⟨[], []⟩,
  ⟨[], [.one (.pl (.list (.prod (.int .i64) (.prod .str (.int .i64))))), .one (.pl (.int .i64))]⟩,
  ⟨[(true, .box [.pl (.prod (.list (.prod (.int .i64) (.prod .str (.int .i64)))) (.prod (.int .i64) (.prod (.int .i64) (.prod (.int .i64) (.int .i64)))))])], [.one (.ptr 0 0)]⟩,
  ⟨[(true, .box [.pl (.prod (.list (.prod (.int .i64) (.prod .str (.int .i64)))) (.prod (.int .i64) (.prod (.int .i64) (.prod (.int .i64) (.int .i64)))))])], [.one (.ptr 0 0)]⟩,
  ⟨[(true, .box [.pl (.prod (.list (.prod (.int .i64) (.prod .str (.int .i64)))) (.prod (.int .i64) (.prod (.int .i64) (.prod (.int .i64) (.int .i64)))))])], [.one (.ptr 0 0)]⟩,
  ⟨[(true, .box [.pl (.prod (.list (.prod (.int .i64) (.prod .str (.int .i64)))) (.prod (.int .i64) (.prod (.int .i64) (.prod (.int .i64) (.int .i64)))))])], [.one (.ptr 0 0)]⟩,
  ⟨[(true, .box [.pl (.prod (.list (.prod (.int .i64) (.prod .str (.int .i64)))) (.prod (.int .i64) (.prod (.int .i64) (.prod (.int .i64) (.int .i64)))))])], [.one (.ptr 0 0)]⟩,
  ⟨[(true, .box [.pl (.prod (.list (.prod (.int .i64) (.prod .str (.int .i64)))) (.prod (.int .i64) (.prod (.int .i64) (.prod (.int .i64) (.int .i64)))))])], [.one (.ptr 0 0)]⟩,
  ⟨[(true, .box [.pl (.prod (.list (.prod (.int .i64) (.prod .str (.int .i64)))) (.prod (.int .i64) (.prod (.int .i64) (.prod (.int .i64) (.int .i64)))))])], [.one (.ptr 0 0)]⟩,
  ⟨[(true, .box [.pl (.prod (.list (.prod (.int .i64) (.prod .str (.int .i64)))) (.prod (.int .i64) (.prod (.int .i64) (.prod (.int .i64) (.int .i64)))))])], [.one (.ptr 0 0)]⟩,
  ⟨[(true, .box [.pl (.prod (.list (.prod (.int .i64) (.prod .str (.int .i64)))) (.prod (.int .i64) (.prod (.int .i64) (.prod (.int .i64) (.int .i64)))))])], [.one (.ptr 0 0)]⟩,
  ⟨[(true, .box [.pl (.prod (.list (.prod (.int .i64) (.prod .str (.int .i64)))) (.prod (.int .i64) (.prod (.int .i64) (.prod (.int .i64) (.int .i64)))))])], [.one (.ptr 0 0), .one (.pl (.int .i64))]⟩,
  ⟨[], [.one (.pl (.list (.prod (.int .i64) (.prod .str (.int .i64))))), .one (.pl (.int .i64))]⟩,
  ⟨[(true, .box [.pl (.prod (.list (.prod (.int .i64) (.prod .str (.int .i64)))) (.prod (.int .i64) (.prod (.int .i64) (.prod (.int .i64) (.int .i64)))))])], [.one (.ptr 0 0), .agg [.pl (.prod (.int .i64) (.prod .str (.int .i64)))]]⟩,
  ⟨[], [.one (.pl (.int .i64)), .one (.pl (.int .i64)), .one (.pl .str), .one (.pl (.list XLc))]⟩,
  ⟨[], [.one (.pl (.int .i64)), .one (.pl (.int .i64)), .one (.pl .str)]⟩,
  ⟨[], [.agg [.pl XNc]]⟩,
  ⟨[(true, .arr XNc)], [.one (.sl 0), .one (.pl XLc)]⟩,
  ⟨[], [.agg [.pl XNc], .one (.pl (.int .i64))]⟩,
  ⟨[], [.agg [.pl XNc], .one (.pl (.list (.int .i64)))]⟩,
  ⟨[(true, .box [.pl (.prod (.list (.prod (.int .i64) (.prod .str (.int .i64)))) (.prod (.int .i64) (.prod (.int .i64) (.prod (.int .i64) (.int .i64)))))])], [.one (.ptr 0 0), .one (.pl .str)]⟩,
  ⟨[(true, .box [.pl (.prod (.list (.prod (.int .i64) (.prod .str (.int .i64)))) (.prod (.int .i64) (.prod (.int .i64) (.prod (.int .i64) (.int .i64)))))])], [.one (.ptr 0 0), .one (.pl .str)]⟩,
  ⟨[(true, .box [.pl (.prod (.list (.prod (.int .i64) (.prod .str (.int .i64)))) (.prod (.int .i64) (.prod (.int .i64) (.prod (.int .i64) (.int .i64)))))])], [.one (.ptr 0 0), .one (.pl .str)]⟩,
  ⟨[(true, .box [.pl (.prod (.list (.prod (.int .i64) (.prod .str (.int .i64)))) (.prod (.int .i64) (.prod (.int .i64) (.prod (.int .i64) (.int .i64)))))])], [.one (.ptr 0 0)]⟩,
  ⟨[(true, .box [.pl (.prod (.list (.prod (.int .i64) (.prod .str (.int .i64)))) (.prod (.int .i64) (.prod (.int .i64) (.prod (.int .i64) (.int .i64)))))])], [.one (.ptr 0 0), .one (.pl .str)]⟩,
  ⟨[], [.one (.pl .str)]⟩,
  ⟨[(true, .box [.pl (.prod (.list (.prod (.int .i64) (.prod .str (.int .i64)))) (.prod (.int .i64) (.prod (.int .i64) (.prod (.int .i64) (.int .i64)))))])], [.one (.ptr 0 0)]⟩,
  ⟨[(true, .box [.pl (.prod (.list (.prod (.int .i64) (.prod .str (.int .i64)))) (.prod (.int .i64) (.prod (.int .i64) (.prod (.int .i64) (.int .i64)))))])], [.one (.ptr 0 0)]⟩,
  ⟨[(true, .box [.pl (.prod (.list (.prod (.int .i64) (.prod .str (.int .i64)))) (.prod (.int .i64) (.prod (.int .i64) (.prod (.int .i64) (.int .i64)))))])], [.one (.ptr 0 0), .one (.pl (.int .i64)), .one (.pl XLc), .one (.pl XLc)]⟩,
  ⟨[], [.one (.pl XLc)]⟩,
  ⟨[], [.one (.pl XLc), .one (.pl XPc), .one (.pl (.list XUc))]⟩,
  ⟨[], [.one (.pl XLc)]⟩,
  ⟨[], [.agg [.pl XNc]]⟩,
  ⟨[], [.agg [.pl XNc]]⟩,
  ⟨[], [.agg [.pl XNc], .one (.pl (.list (.int .i64)))]⟩,
  ⟨[], [.one (.pl (.list .bool)), .one (.pl .bool)]⟩,
  ⟨[], [.one (.pl (.list .bool)), .one (.pl .bool)]⟩,
  ⟨[], [.one (.pl XLc)]⟩,
  ⟨[], [.one (.pl XLc)]⟩,
  ⟨[], [.one (.pl XLc), .one (.pl (.int .i64))]⟩,
  ⟨[(true, .arr XNc)], [.one (.sl 0), .one (.pl XLc), .one (.pl (.int .i64))]⟩,
  ⟨[(true, .box [.pl (.prod XPc (.list XUc))]), (true, .arr (.int .i64))], [.one (.ptr 0 0), .one (.pl XLc), .agg [.pl XNc], .one (.sl 1)]⟩,
  ⟨[(true, .box [.pl XNc])], [.one (.pl XPc), .one (.fn 48 [] [some 0])]⟩,
  ⟨[(true, .box [.pl XNc])], [.agg [.pl (.prod .str (.int .i64))], .one (.ptr 0 0)]⟩,
  ⟨[(true, .box [.pl XNc])], [.one (.pl (.list XUc)), .one (.fn 50 [] [some 0])]⟩,
  ⟨[(true, .box [.pl XNc])], [.agg [.pl XUc], .one (.ptr 0 0)]⟩,
  ⟨[(true, .arr (.int .i64))], [.one (.pl XLc), .agg [.pl XNc], .one (.sl 0)]⟩,
  ⟨[(true, .arr (.int .i64))], [.one (.sl 0)]⟩,
  ⟨[], []⟩,
  ⟨[], [.one (.pl .str)]⟩,
  ⟨[(true, .box [.sl 1, .pl (.int .i64), .pl (.int .i64), .pl (.int .i64)]), (true, .arr (.prod (.int .i64) (.prod .str (.int .i64))))], [.one (.ptr 0 0), .one (.pl .str)]⟩,
  ⟨[(true, .box [.sl 1, .pl (.int .i64), .pl (.int .i64), .pl (.int .i64)]), (true, .arr (.prod (.int .i64) (.prod .str (.int .i64))))], [.one (.ptr 0 0)]⟩,
  ⟨[(true, .box [.sl 1, .pl (.int .i64), .pl (.int .i64), .pl (.int .i64)]), (true, .arr (.prod (.int .i64) (.prod .str (.int .i64))))], [.one (.ptr 0 0), .one (.pl (.int .i64))]⟩,
  ⟨[(true, .box [.sl 1, .pl (.int .i64), .pl (.int .i64), .pl (.int .i64)]), (true, .arr (.prod (.int .i64) (.prod .str (.int .i64))))], [.one (.ptr 0 0), .one (.pl (.int .i64))]⟩,
  ⟨[(true, .box [.pl (.prod (.list (.prod (.int .i64) (.prod .str (.int .i64)))) (.prod (.int .i64) (.prod (.int .i64) (.int .i64))))])], [.one (.ptr 0 0)]⟩,
  ⟨[(true, .box [.pl (.prod (.list (.prod (.int .i64) (.prod .str (.int .i64)))) (.prod (.int .i64) (.prod (.int .i64) (.int .i64))))])], [.one (.ptr 0 0), .one (.pl .str)]⟩,
  ⟨[(true, .box [.pl (.prod (.list (.prod (.int .i64) (.prod .str (.int .i64)))) (.prod (.int .i64) (.prod (.int .i64) (.int .i64))))])], [.one (.ptr 0 0), .one (.pl .str)]⟩,
  ⟨[(true, .box [.pl (.prod (.list (.prod (.int .i64) (.prod .str (.int .i64)))) (.prod (.int .i64) (.prod (.int .i64) (.int .i64))))])], [.one (.ptr 0 0)]⟩,
  ⟨[(true, .box [.pl (.prod (.list (.prod (.int .i64) (.prod .str (.int .i64)))) (.prod (.int .i64) (.prod (.int .i64) (.int .i64))))])], [.one (.ptr 0 0)]⟩,
  ⟨[(true, .box [.pl (.prod (.list (.prod (.int .i64) (.prod .str (.int .i64)))) (.prod (.int .i64) (.prod (.int .i64) (.int .i64))))])], [.one (.ptr 0 0)]⟩,
  ⟨[(true, .box [.pl (.prod (.list (.prod (.int .i64) (.prod .str (.int .i64)))) (.prod (.int .i64) (.prod (.int .i64) (.int .i64))))])], [.one (.ptr 0 0), .one (.pl (.int .i64))]⟩,
  ⟨[(true, .box [.pl (.prod (.list (.prod (.int .i64) (.prod .str (.int .i64)))) (.prod (.int .i64) (.prod (.int .i64) (.int .i64))))])], [.one (.ptr 0 0)]⟩,
  ⟨[(true, .box [.pl (.prod (.list (.prod (.int .i64) (.prod .str (.int .i64)))) (.prod (.int .i64) (.prod (.int .i64) (.int .i64))))])], [.one (.ptr 0 0), .one (.pl .str)]⟩,
  ⟨[(true, .box [.pl (.prod (.list (.prod (.int .i64) (.prod .str (.int .i64)))) (.prod (.int .i64) (.prod (.int .i64) (.int .i64))))])], [.one (.ptr 0 0), .one (.pl (.int .i64))]⟩,
  ⟨[(true, .box [.pl (.prod (.list (.prod (.int .i64) (.prod .str (.int .i64)))) (.prod (.int .i64) (.prod (.int .i64) (.int .i64))))])], [.one (.ptr 0 0)]⟩,
  ⟨[(true, .box [.pl (.prod (.list (.prod (.int .i64) (.prod .str (.int .i64)))) (.prod (.int .i64) (.prod (.int .i64) (.int .i64))))])], [.one (.ptr 0 0)]⟩,
  ⟨[(true, .box [.pl (.prod (.list (.prod (.int .i64) (.prod .str (.int .i64)))) (.prod (.int .i64) (.prod (.int .i64) (.int .i64))))])], [.one (.ptr 0 0)]⟩,
  ⟨[(true, .box [.pl (.prod (.list (.prod (.int .i64) (.prod .str (.int .i64)))) (.prod (.int .i64) (.prod (.int .i64) (.int .i64))))])], [.one (.ptr 0 0)]⟩,
  ⟨[(true, .box [.pl (.prod (.list (.prod (.int .i64) (.prod .str (.int .i64)))) (.prod (.int .i64) (.prod (.int .i64) (.int .i64))))])], [.one (.ptr 0 0)]⟩,
  ⟨[(true, .box [.pl (.prod (.list (.prod (.int .i64) (.prod .str (.int .i64)))) (.prod (.int .i64) (.prod (.int .i64) (.int .i64))))])], [.one (.ptr 0 0)]⟩,
  ⟨[(true, .box [.pl (.prod (.list (.prod (.int .i64) (.prod .str (.int .i64)))) (.prod (.int .i64) (.prod (.int .i64) (.int .i64))))])], [.one (.ptr 0 0)]⟩,
  ⟨[(true, .box [.pl (.prod (.list (.prod (.int .i64) (.prod .str (.int .i64)))) (.prod (.int .i64) (.prod (.int .i64) (.int .i64))))])], [.one (.ptr 0 0)]⟩,
  ⟨[], [.agg [.pl (.prod (.list XUc) (.prod .str .str))]]⟩,
  ⟨[], [.agg [.pl XUc], .one (.pl (.list XUc))]⟩,
  ⟨[], [.one (.pl XPc)]⟩,
  ⟨[], [.one (.pl XPc)]⟩,
  ⟨[(true, .box [.cl (.prod .str (.int .i64)), .pl (.list XUc)])], [.one (.ptr 0 0), .agg [.pl XIc]]⟩,
  ⟨[(true, .box [.cl (.prod .str (.int .i64)), .pl (.list XUc)])], [.one (.ptr 0 0), .one (.pl (.int .i64)), .one (.pl (.list XLc))]⟩,
  ⟨[(true, .box [.sl 1, .pl (.list XUc)]), (true, .arr (.prod .str (.int .i64)))], [.one (.ptr 0 0), .agg [.pl XIc]]⟩,
  ⟨[(true, .box [.sl 1, .pl (.list XUc)]), (true, .arr (.prod .str (.int .i64)))], [.one (.ptr 0 0), .one (.pl (.int .i64)), .one (.pl (.list XLc))]⟩,
  ⟨[(true, .box [.pl (.prod .str XLc)])], [.one (.pl XPc), .one (.fn 66 [] [some 0])]⟩,
  ⟨[(true, .box [.pl (.prod .str XLc)])], [.agg [.pl (.prod .str (.int .i64))], .one (.ptr 0 0)]⟩,
  ⟨[(true, .box [.pl (.prod XPc (.list XUc))])], [.one (.ptr 0 0), .one (.pl (.int .i64)), .one (.pl (.list XLc))]⟩,
  ⟨[], [.agg [.pl (.prod (.list XUc) (.prod .str .str))]]⟩,
  ⟨[], [.one (.pl XLc), .one (.pl (.int .i64))]⟩,
  ⟨[], [.one (.pl XLc)]⟩,
  ⟨[], [.agg [.pl XNc]]⟩,
  ⟨[], [.agg [.pl XNc]]⟩,
  ⟨[], [.one (.pl XLc), .one (.pl (.int .i64))]⟩,
  ⟨[(true, .arr XNc)], [.one (.pl XLc), .one (.pl (.int .i64)), .one (.sl 0)]⟩,
  ⟨[], [.one (.pl XLc)]⟩,
  ⟨[], [.agg [.pl (.prod XLc (.prod XLc (.prod XPc .str)))]]⟩,
  ⟨[], [.one (.pl XLc), .one (.pl (.list .str)), .one (.pl (.list XLc))]⟩,
  ⟨[], [.one (.pl (.list .str)), .one (.pl .str)]⟩,
  ⟨[], [.one (.pl XLc), .one (.pl XPc), .one (.pl XPc)]⟩,
  ⟨[], [.one (.pl XLc), .one (.pl XLc), .one (.pl XPc)]⟩]
  koutsL := [[⟨[], [.one (.pl .bool)]⟩],
  [⟨[], [.one (.pl .bool)]⟩],
  [⟨[], [.one (.pl XLc)]⟩],
  [⟨[], [.one (.pl XLc), .agg [.pl (.prod (.int .i64) (.int .i64))]]⟩],
  [⟨[(true, .arr (.prod (.int .i64) (.prod .str (.int .i64))))], [.one (.sl 0), .agg [.pl (.prod (.int .i64) (.int .i64))]]⟩],
  [⟨[], [.agg [.pl (.prod (.int .i64) (.prod .str (.int .i64)))], .one (.pl (.int .i64))]⟩],
  [⟨[], [.one (.pl .bool)]⟩],
  [⟨[], [.one (.pl (.int .i64))]⟩],
  [⟨[], [.one (.pl .bool)]⟩],
  [⟨[], [.agg [.pl (.prod (.int .i64) (.prod .str (.int .i64)))], .one (.pl (.int .i64))]⟩],
  [⟨[], [.one (.pl .bool)]⟩],
  [⟨[(true, .arr .str)], [.one (.sl 0)]⟩],
  [⟨[], [.one (.pl .bool)]⟩],
  [⟨[], [.one (.pl .str)]⟩],
  [⟨[(true, .arr .str)], [.one (.sl 0)]⟩],
  [⟨[], [.one (.pl XLc), .one (.pl (.int .i64)), .agg [.pl (.prod (.int .i64) (.int .i64))]]⟩],
  [⟨[(true, .box [.pl (.prod (.list (.prod (.int .i64) (.prod .str (.int .i64)))) (.prod (.int .i64) (.prod (.int .i64) (.prod (.int .i64) (.int .i64)))))]), (true, .arr XNc)], [.one (.sl 1)]⟩],
  [⟨[(true, .box [.pl (.prod (.list (.prod (.int .i64) (.prod .str (.int .i64)))) (.prod (.int .i64) (.prod (.int .i64) (.prod (.int .i64) (.int .i64)))))]), (true, .arr XNc)], [.one (.sl 1)]⟩],
  [⟨[(true, .box [.pl (.prod (.list (.prod (.int .i64) (.prod .str (.int .i64)))) (.prod (.int .i64) (.prod (.int .i64) (.prod (.int .i64) (.int .i64)))))]), (true, .arr XNc)], [.one (.sl 1)]⟩],
  [⟨[(true, .box [.pl (.prod (.list (.prod (.int .i64) (.prod .str (.int .i64)))) (.prod (.int .i64) (.prod (.int .i64) (.prod (.int .i64) (.int .i64)))))]), (true, .arr XNc)], [.one (.sl 1)]⟩],
  [⟨[(true, .box [.pl (.prod (.list (.prod (.int .i64) (.prod .str (.int .i64)))) (.prod (.int .i64) (.prod (.int .i64) (.prod (.int .i64) (.int .i64)))))]), (true, .arr XNc)], [.one (.sl 1)]⟩],
  [⟨[(true, .box [.pl (.prod (.list (.prod (.int .i64) (.prod .str (.int .i64)))) (.prod (.int .i64) (.prod (.int .i64) (.prod (.int .i64) (.int .i64)))))]), (true, .arr XNc)], [.one (.sl 1)]⟩],
  [⟨[(true, .box [.pl (.prod (.list (.prod (.int .i64) (.prod .str (.int .i64)))) (.prod (.int .i64) (.prod (.int .i64) (.prod (.int .i64) (.int .i64)))))]), (true, .arr XNc)], [.one (.sl 1)]⟩],
  [⟨[(true, .box [.pl (.prod (.list (.prod (.int .i64) (.prod .str (.int .i64)))) (.prod (.int .i64) (.prod (.int .i64) (.prod (.int .i64) (.int .i64)))))]), (true, .arr XNc)], [.one (.sl 1)]⟩],
  [⟨[(true, .box [.pl (.prod (.list (.prod (.int .i64) (.prod .str (.int .i64)))) (.prod (.int .i64) (.prod (.int .i64) (.prod (.int .i64) (.int .i64)))))]), (true, .arr XNc)], [.one (.sl 1)]⟩],
  [⟨[(true, .box [.pl (.prod (.list (.prod (.int .i64) (.prod .str (.int .i64)))) (.prod (.int .i64) (.prod (.int .i64) (.prod (.int .i64) (.int .i64)))))]), (true, .arr XNc)], [.one (.sl 1)]⟩],
  [⟨[], [.one (.pl (.int .i64))]⟩],
  [⟨[(true, .box [.pl (.prod (.list (.prod (.int .i64) (.prod .str (.int .i64)))) (.prod (.int .i64) (.prod (.int .i64) (.prod (.int .i64) (.int .i64)))))]), (true, .arr XNc)], [.one (.sl 1)]⟩],
  [⟨[(true, .arr XNc)], [.one (.sl 0)]⟩],
  [⟨[], [.agg [.pl XNc]]⟩],
  [⟨[(true, .arr (.int .i64))], [.one (.sl 0)]⟩],
  [⟨[(true, .gone), (true, .arr XNc)], [.one (.sl 1)]⟩],
  [⟨[], [.agg [.pl XNc]]⟩],
  [⟨[], [.agg [.pl XNc]]⟩],
  [⟨[(true, .box [.pl (.prod (.list (.prod (.int .i64) (.prod .str (.int .i64)))) (.prod (.int .i64) (.prod (.int .i64) (.prod (.int .i64) (.int .i64)))))]), (true, .arr XNc)], [.one (.sl 1)]⟩],
  [⟨[(true, .box [.pl (.prod (.list (.prod (.int .i64) (.prod .str (.int .i64)))) (.prod (.int .i64) (.prod (.int .i64) (.prod (.int .i64) (.int .i64)))))])], [.one (.pl .bool)]⟩],
  [⟨[(true, .box [.pl (.prod (.list (.prod (.int .i64) (.prod .str (.int .i64)))) (.prod (.int .i64) (.prod (.int .i64) (.prod (.int .i64) (.int .i64)))))])], [.one (.pl .bool)]⟩],
  [⟨[(true, .box [.pl (.prod (.list (.prod (.int .i64) (.prod .str (.int .i64)))) (.prod (.int .i64) (.prod (.int .i64) (.prod (.int .i64) (.int .i64)))))]), (true, .arr XLc)], [.one (.sl 1)]⟩],
  [⟨[(true, .box [.pl (.prod (.list (.prod (.int .i64) (.prod .str (.int .i64)))) (.prod (.int .i64) (.prod (.int .i64) (.prod (.int .i64) (.int .i64)))))])], []⟩],
  [⟨[], [.one (.pl (.int .i64))]⟩],
  [⟨[(true, .box [.pl (.prod (.list (.prod (.int .i64) (.prod .str (.int .i64)))) (.prod (.int .i64) (.prod (.int .i64) (.prod (.int .i64) (.int .i64)))))]), (true, .arr XNc)], [.one (.sl 1)]⟩],
  [⟨[(true, .box [.pl (.prod (.list (.prod (.int .i64) (.prod .str (.int .i64)))) (.prod (.int .i64) (.prod (.int .i64) (.prod (.int .i64) (.int .i64)))))]), (true, .arr XNc)], [.one (.sl 1)]⟩],
  [⟨[(true, .box [.pl (.prod (.list (.prod (.int .i64) (.prod .str (.int .i64)))) (.prod (.int .i64) (.prod (.int .i64) (.prod (.int .i64) (.int .i64)))))]), (true, .arr XNc)], [.one (.sl 1)]⟩],
  [⟨[], [.one (.pl (.int .i64))]⟩],
  [⟨[], [.one (.pl (.int .i64)), .one (.pl (.int .i64))]⟩],
  [⟨[], [.one (.pl .bool)]⟩],
  [⟨[], [.one (.pl .bool)]⟩],
  [⟨[(true, .arr (.int .i64))], [.one (.sl 0)]⟩],
  [⟨[], [.agg [.pl XNc]]⟩],
  [⟨[], [.one (.pl .bool)]⟩],
  [⟨[], [.one (.pl (.int .i64))]⟩],
  [⟨[], [.one (.pl (.int .i64))]⟩],
  [⟨[(true, .arr (.int .i64))], [.one (.sl 0)]⟩],
  [⟨[(true, .arr XNc)], [.one (.sl 0)]⟩],
  [⟨[(true, .gone), (true, .arr XNc)], [.one (.sl 1)]⟩],
  [⟨[(true, .box [.pl (.prod XPc (.list XUc))]), (true, .arr (.int .i64))], [.one (.pl (.int .i64)), .one (.pl (.int .i64))]⟩],
  [⟨[(true, .box [.pl XNc])], [.one (.pl (.int .i64))]⟩],
  [⟨[(true, .box [.pl XNc])], [.one (.pl .bool)]⟩],
  [⟨[(true, .box [.pl XNc])], [.one (.pl (.int .i64))]⟩],
  [⟨[(true, .box [.pl XNc])], [.one (.pl .bool)]⟩],
  [⟨[(true, .arr (.int .i64)), (true, .arr (.int .i64))], [.one (.sl 1)]⟩],
  [⟨[(true, .arr (.int .i64))], []⟩],
  [⟨[], [.agg [.pl (.prod (.int .i64) (.prod (.int .i64) (.prod (.int .i64) (.prod (.int .i64) (.prod (.int .i64) (.prod (.int .i64) (.prod (.int .i64) (.prod (.int .i64) (.prod (.int .i64) (.prod (.int .i64) (.prod (.int .i64) (.prod (.int .i64) (.prod (.int .i64) (.prod (.int .i64) (.prod (.int .i64) (.prod (.int .i64) (.prod (.int .i64) (.prod (.int .i64) (.prod (.int .i64) (.prod (.int .i64) (.prod (.int .i64) (.prod (.int .i64) (.prod (.int .i64) (.prod (.int .i64) (.prod (.int .i64) (.prod (.int .i64) (.prod (.int .i64) (.prod (.int .i64) (.prod (.int .i64) (.prod (.int .i64) (.prod (.int .i64) (.prod (.int .i64) (.prod (.int .i64) (.prod (.int .i64) (.prod (.int .i64) (.prod (.int .i64) (.prod (.int .i64) (.prod (.int .i64) (.prod (.int .i64) (.prod (.int .i64) (.prod (.int .i64) (.prod (.int .i64) (.prod (.int .i64) (.prod (.int .i64) (.prod (.int .i64) (.prod (.int .i64) (.prod (.int .i64) (.prod (.int .i64) (.prod (.int .i64) (.prod (.int .i64) (.prod (.int .i64) (.int .i64))))))))))))))))))))))))))))))))))))))))))))))))))))]]⟩],
  [⟨[], [.agg [.pl (.prod (.list XUc) (.prod .str .str))], .agg [.pl (.prod (.int .i64) (.int .i64))]]⟩],
  [⟨[(true, .box [.sl 1, .pl (.int .i64), .pl (.int .i64), .pl (.int .i64)]), (true, .arr (.prod (.int .i64) (.prod .str (.int .i64))))], [.one (.pl .bool)]⟩],
  [⟨[(true, .box [.sl 1, .pl (.int .i64), .pl (.int .i64), .pl (.int .i64)]), (true, .arr (.prod (.int .i64) (.prod .str (.int .i64))))], [.one (.pl .bool)]⟩],
  [⟨[(true, .box [.pl (.prod (.list (.prod (.int .i64) (.prod .str (.int .i64)))) (.prod (.int .i64) (.prod (.int .i64) (.int .i64))))]), (true, .gone)], []⟩],
  [⟨[(true, .box [.pl (.prod (.list (.prod (.int .i64) (.prod .str (.int .i64)))) (.prod (.int .i64) (.prod (.int .i64) (.int .i64))))]), (true, .gone)], []⟩],
  [⟨[(true, .box [.pl (.prod (.list (.prod (.int .i64) (.prod .str (.int .i64)))) (.prod (.int .i64) (.prod (.int .i64) (.int .i64))))])], [.agg [.pl XUc]]⟩],
  [⟨[(true, .box [.pl (.prod (.list (.prod (.int .i64) (.prod .str (.int .i64)))) (.prod (.int .i64) (.prod (.int .i64) (.int .i64))))])], [.one (.pl .bool)]⟩],
  [⟨[(true, .box [.pl (.prod (.list (.prod (.int .i64) (.prod .str (.int .i64)))) (.prod (.int .i64) (.prod (.int .i64) (.int .i64))))])], [.one (.pl .bool)]⟩],
  [⟨[(true, .box [.pl (.prod (.list (.prod (.int .i64) (.prod .str (.int .i64)))) (.prod (.int .i64) (.prod (.int .i64) (.int .i64))))])], [.one (.pl .bool)]⟩],
  [⟨[(true, .box [.pl (.prod (.list (.prod (.int .i64) (.prod .str (.int .i64)))) (.prod (.int .i64) (.prod (.int .i64) (.int .i64))))])], [.one (.pl .str)]⟩],
  [⟨[(true, .box [.pl (.prod (.list (.prod (.int .i64) (.prod .str (.int .i64)))) (.prod (.int .i64) (.prod (.int .i64) (.int .i64))))])], [.one (.pl .bool)]⟩],
  [⟨[(true, .box [.pl (.prod (.list (.prod (.int .i64) (.prod .str (.int .i64)))) (.prod (.int .i64) (.prod (.int .i64) (.int .i64))))])], []⟩],
  [⟨[(true, .box [.pl (.prod (.list (.prod (.int .i64) (.prod .str (.int .i64)))) (.prod (.int .i64) (.prod (.int .i64) (.int .i64))))]), (true, .arr (.prod .str (.int .i64)))], [.one (.sl 1)]⟩],
  [⟨[(true, .box [.pl (.prod (.list (.prod (.int .i64) (.prod .str (.int .i64)))) (.prod (.int .i64) (.prod (.int .i64) (.int .i64))))])], []⟩],
  [⟨[(true, .box [.pl (.prod (.list (.prod (.int .i64) (.prod .str (.int .i64)))) (.prod (.int .i64) (.prod (.int .i64) (.int .i64))))])], []⟩],
  [⟨[(true, .box [.pl (.prod (.list (.prod (.int .i64) (.prod .str (.int .i64)))) (.prod (.int .i64) (.prod (.int .i64) (.int .i64))))])], [.agg [.pl (.prod .str (.int .i64))]]⟩],
  [⟨[(true, .box [.pl (.prod (.list (.prod (.int .i64) (.prod .str (.int .i64)))) (.prod (.int .i64) (.prod (.int .i64) (.int .i64))))]), (true, .arr XIc)], [.one (.sl 1)]⟩],
  [⟨[(true, .box [.pl (.prod (.list (.prod (.int .i64) (.prod .str (.int .i64)))) (.prod (.int .i64) (.prod (.int .i64) (.int .i64))))])], [.one (.pl .bool)]⟩],
  [⟨[(true, .box [.pl (.prod (.list (.prod (.int .i64) (.prod .str (.int .i64)))) (.prod (.int .i64) (.prod (.int .i64) (.int .i64))))])], [.agg [.pl XIc], .one (.pl .bool)]⟩],
  [⟨[(true, .box [.pl (.prod (.list (.prod (.int .i64) (.prod .str (.int .i64)))) (.prod (.int .i64) (.prod (.int .i64) (.int .i64))))])], [.one (.pl XLc)]⟩],
  [⟨[(true, .box [.pl (.prod (.list (.prod (.int .i64) (.prod .str (.int .i64)))) (.prod (.int .i64) (.prod (.int .i64) (.int .i64))))]), (true, .arr XLc)], [.one (.sl 1)]⟩],
  [⟨[(true, .box [.pl (.prod (.list (.prod (.int .i64) (.prod .str (.int .i64)))) (.prod (.int .i64) (.prod (.int .i64) (.int .i64))))]), (true, .arr (.prod .str (.int .i64)))], [.one (.sl 1)]⟩],
  [⟨[(true, .box [.pl (.prod (.list (.prod (.int .i64) (.prod .str (.int .i64)))) (.prod (.int .i64) (.prod (.int .i64) (.int .i64))))]), (true, .arr (.prod .str XLc))], [.one (.sl 1)]⟩],
  [⟨[], [.agg [.pl (.prod (.int .i64) (.int .i64))]]⟩],
  [⟨[], [.one (.pl (.int .i64))]⟩],
  [⟨[(true, .arr (.prod .str (.int .i64)))], [.one (.sl 0)]⟩],
  [⟨[], [.one (.cl (.prod .str (.int .i64)))]⟩],
  [⟨[(true, .box [.sl 1, .pl (.list XUc)]), (true, .arr (.prod .str (.int .i64)))], [.one (.pl (.int .i64))]⟩, ⟨[(true, .box [.cl (.prod .str (.int .i64)), .pl (.list XUc)])], [.one (.pl (.int .i64))]⟩],
  [⟨[(true, .box [.cl (.prod .str (.int .i64)), .pl (.list XUc)])], [.one (.pl (.int .i64))]⟩],
  [⟨[(true, .box [.sl 2, .pl (.list XUc)]), (true, .gone), (true, .arr (.prod .str (.int .i64)))], [.one (.pl (.int .i64))]⟩, ⟨[(true, .box [.sl 1, .pl (.list XUc)]), (true, .arr (.prod .str (.int .i64)))], [.one (.pl (.int .i64))]⟩],
  [⟨[(true, .box [.sl 1, .pl (.list XUc)]), (true, .arr (.prod .str (.int .i64)))], [.one (.pl (.int .i64))]⟩],
  [⟨[(true, .box [.pl (.prod .str XLc)])], [.one (.pl (.int .i64))]⟩],
  [⟨[(true, .box [.pl (.prod .str XLc)])], [.one (.pl .bool)]⟩],
  [⟨[(true, .box [.pl (.prod XPc (.list XUc))])], [.one (.pl (.int .i64))]⟩],
  [⟨[], [.one (.pl .bool)]⟩],
  [⟨[(true, .arr XNc)], [.one (.sl 0)]⟩],
  [⟨[], [.one (.pl .bool)]⟩],
  [⟨[], [.one (.pl .bool)]⟩],
  [⟨[], [.one (.pl .bool)]⟩],
  [⟨[], [.one (.pl .bool)]⟩],
  [⟨[(true, .gone), (true, .arr XNc)], [.one (.sl 1)]⟩],
  [⟨[(true, .arr XNc)], [.one (.sl 0)]⟩],
  [⟨[], [.one (.pl .bool)]⟩],
  [⟨[(true, .arr XNc)], [.one (.sl 0)]⟩],
  [⟨[], [.one (.pl (.int .i64))]⟩],
  [⟨[], [.one (.pl .bool)]⟩],
  [⟨[], [.one (.pl .bool)]⟩]]
  bkL := [noBlk,
  noBlk,
  ⟨[0, 6], ⟨[], [.one (.pl .str), .one (.pl (.int .i64))]⟩, [0, 1, 4, 5], [(.norm, [6], ⟨[], [.one (.pl (.int .i64))]⟩)]⟩,
  ⟨[0, 3, 4], ⟨[], [.one (.pl .str), .one (.pl (.int .i64)), .one (.pl (.int .i64))]⟩, [2], [(.norm, [3], ⟨[], [.one (.pl (.int .i64))]⟩)]⟩,
  ⟨[0, 6], ⟨[], [.one (.pl .str), .one (.pl (.int .i64))]⟩, [0, 1, 4, 5], [(.norm, [6], ⟨[], [.one (.pl (.int .i64))]⟩)]⟩,
  ⟨[0, 3, 4], ⟨[(true, .arr .str)], [.one (.pl .str), .one (.sl 0), .one (.pl (.int .i64))]⟩, [], [(.ret, [2], ⟨[(true, .arr .str)], [.one (.pl .bool)]⟩), (.norm, [], ⟨[(true, .arr .str)], []⟩)]⟩,
  ⟨[0, 3], ⟨[], [.one (.pl .str), .one (.pl (.int .i64))]⟩, [], [(.ret, [2], ⟨[], [.one (.pl .bool)]⟩), (.norm, [], ⟨[], []⟩)]⟩,
  ⟨[0, 3, 4], ⟨[(true, .arr .str)], [.one (.pl .str), .one (.sl 0), .one (.pl (.int .i64))]⟩, [], [(.ret, [2], ⟨[(true, .arr .str)], [.one (.pl .str)]⟩), (.norm, [], ⟨[(true, .arr .str)], []⟩)]⟩,
  ⟨[0, 3, 4, 5], ⟨[(true, .box [.pl (.prod (.int .i64) (.int .i64))]), (false, .arr (.prod (.int .i64) (.prod .str (.int .i64))))], [.one (.pl .str), .one (.ptr 0 0), .one (.sl 1), .one (.pl (.int .i64))]⟩, [3], [(.ret, [2], ⟨[(true, .box [.pl (.prod (.int .i64) (.int .i64))]), (true, .gone), (true, .arr (.prod (.int .i64) (.prod .str (.int .i64))))], [.one (.sl 2)]⟩), (.norm, [4], ⟨[(true, .box [.pl (.prod (.int .i64) (.int .i64))]), (true, .gone), (true, .arr (.prod (.int .i64) (.prod .str (.int .i64))))], [.one (.sl 2)]⟩)]⟩,
  ⟨[0, 5], ⟨[], [.one (.pl .str), .one (.pl (.int .i64))]⟩, [0, 2, 3, 4], [(.norm, [5], ⟨[], [.one (.pl (.int .i64))]⟩)]⟩,
  noBlk,
  noBlk,
  noBlk,
  ⟨[0, 1, 5, 6], ⟨[(false, .arr XNc)], [.one (.sl 0), .one (.pl XLc), .one (.pl (.int .i64)), .one (.pl (.int .i64))]⟩, [4], [(.norm, [0], ⟨[(true, .gone), (true, .arr XNc)], [.one (.sl 1)]⟩)]⟩,
  ⟨[0, 3, 11, 12, 13, 14], ⟨[(false, .arr XNc), (false, .arr (.int .i64))], [.one (.pl (.int .i64)), .one (.pl (.list XLc)), .one (.sl 0), .one (.sl 1), .one (.pl (.int .i64)), .one (.pl (.int .i64))]⟩, [0, 9], [(.ret, [8], ⟨[(true, .gone), (true, .gone), (true, .arr XNc)], [.one (.sl 2)]⟩), (.norm, [11, 12, 13], ⟨[(true, .gone), (true, .gone), (true, .arr XNc), (true, .arr (.int .i64))], [.one (.sl 2), .one (.sl 3), .one (.pl (.int .i64))]⟩)]⟩,
  noBlk,
  ⟨[0, 3], ⟨[(true, .box [.pl (.prod (.list (.prod (.int .i64) (.prod .str (.int .i64)))) (.prod (.int .i64) (.prod (.int .i64) (.prod (.int .i64) (.int .i64)))))]), (false, .arr XLc)], [.one (.ptr 0 0), .one (.sl 1)]⟩, [], [(.ret, [2], ⟨[(true, .box [.pl (.prod (.list (.prod (.int .i64) (.prod .str (.int .i64)))) (.prod (.int .i64) (.prod (.int .i64) (.prod (.int .i64) (.int .i64)))))]), (true, .gone), (true, .arr XLc)], [.one (.sl 2)]⟩), (.norm, [], ⟨[(true, .box [.pl (.prod (.list (.prod (.int .i64) (.prod .str (.int .i64)))) (.prod (.int .i64) (.prod (.int .i64) (.prod (.int .i64) (.int .i64)))))]), (true, .gone)], []⟩)]⟩,
  noBlk,
  ⟨[0, 3], ⟨[(true, .box [.pl (.prod (.list (.prod (.int .i64) (.prod .str (.int .i64)))) (.prod (.int .i64) (.prod (.int .i64) (.prod (.int .i64) (.int .i64)))))]), (false, .arr XNc)], [.one (.ptr 0 0), .one (.sl 1)]⟩, [2], [(.norm, [3], ⟨[(true, .box [.pl (.prod (.list (.prod (.int .i64) (.prod .str (.int .i64)))) (.prod (.int .i64) (.prod (.int .i64) (.prod (.int .i64) (.int .i64)))))]), (true, .gone), (true, .arr XNc)], [.one (.sl 2)]⟩)]⟩,
  noBlk,
  ⟨[0, 3], ⟨[(true, .box [.pl (.prod (.list (.prod (.int .i64) (.prod .str (.int .i64)))) (.prod (.int .i64) (.prod (.int .i64) (.prod (.int .i64) (.int .i64)))))]), (false, .arr XNc)], [.one (.ptr 0 0), .one (.sl 1)]⟩, [2], [(.norm, [3], ⟨[(true, .box [.pl (.prod (.list (.prod (.int .i64) (.prod .str (.int .i64)))) (.prod (.int .i64) (.prod (.int .i64) (.prod (.int .i64) (.int .i64)))))]), (true, .gone), (true, .arr XNc)], [.one (.sl 2)]⟩)]⟩,
  noBlk,
  ⟨[0, 3], ⟨[(true, .box [.pl (.prod (.list (.prod (.int .i64) (.prod .str (.int .i64)))) (.prod (.int .i64) (.prod (.int .i64) (.prod (.int .i64) (.int .i64)))))]), (false, .arr XNc)], [.one (.ptr 0 0), .one (.sl 1)]⟩, [2], [(.norm, [3], ⟨[(true, .box [.pl (.prod (.list (.prod (.int .i64) (.prod .str (.int .i64)))) (.prod (.int .i64) (.prod (.int .i64) (.prod (.int .i64) (.int .i64)))))]), (true, .gone), (true, .arr XNc)], [.one (.sl 2)]⟩)]⟩,
  noBlk,
  ⟨[0, 3], ⟨[(true, .box [.pl (.prod (.list (.prod (.int .i64) (.prod .str (.int .i64)))) (.prod (.int .i64) (.prod (.int .i64) (.prod (.int .i64) (.int .i64)))))]), (false, .arr XNc)], [.one (.ptr 0 0), .one (.sl 1)]⟩, [2], [(.norm, [3], ⟨[(true, .box [.pl (.prod (.list (.prod (.int .i64) (.prod .str (.int .i64)))) (.prod (.int .i64) (.prod (.int .i64) (.prod (.int .i64) (.int .i64)))))]), (true, .gone), (true, .arr XNc)], [.one (.sl 2)]⟩)]⟩,
  noBlk,
  ⟨[0, 3], ⟨[(true, .box [.pl (.prod (.list (.prod (.int .i64) (.prod .str (.int .i64)))) (.prod (.int .i64) (.prod (.int .i64) (.prod (.int .i64) (.int .i64)))))]), (false, .arr XNc)], [.one (.ptr 0 0), .one (.sl 1)]⟩, [2], [(.norm, [3], ⟨[(true, .box [.pl (.prod (.list (.prod (.int .i64) (.prod .str (.int .i64)))) (.prod (.int .i64) (.prod (.int .i64) (.prod (.int .i64) (.int .i64)))))]), (true, .gone), (true, .arr XNc)], [.one (.sl 2)]⟩)]⟩,
  noBlk,
  noBlk,
  noBlk,
  noBlk,
  noBlk,
  noBlk,
  noBlk,
  ⟨[0, 3, 4], ⟨[(true, .arr (.int .i64))], [.one (.pl XLc), .one (.sl 0), .one (.pl (.int .i64))]⟩, [0, 2, 3], [(.norm, [], ⟨[(true, .arr (.int .i64))], []⟩)]⟩,
  ⟨[3, 4, 5, 6], ⟨[(true, .arr (.int .i64)), (true, .arr (.int .i64))], [.one (.sl 0), .one (.pl (.int .i64)), .one (.sl 1), .one (.pl (.int .i64))]⟩, [0, 3, 4], [(.norm, [], ⟨[(true, .arr (.int .i64)), (true, .arr (.int .i64))], []⟩)]⟩,
  noBlk,
  ⟨[0, 1, 6], ⟨[(true, .box [.pl (.prod (.int .i64) (.int .i64))])], [.one (.pl (.list (.prod (.int .i64) (.prod .str (.int .i64))))), .one (.pl (.int .i64)), .one (.ptr 0 0)]⟩, [6], [(.ret, [4, 5], ⟨[(true, .box [.pl (.prod (.int .i64) (.int .i64))]), (true, .arr XNc)], [.one (.sl 1), .one (.pl (.int .i64))]⟩), (.ret, [4, 5], ⟨[(true, .box [.pl (.prod (.int .i64) (.int .i64))])], [.one (.pl XLc), .one (.pl (.int .i64))]⟩)]⟩,
  ⟨[0, 3, 30, 31, 32], ⟨[(true, .arr .bool)], [.one (.pl XLc), .one (.sl 0), .one (.pl XLc), .one (.pl (.int .i64)), .one (.pl (.int .i64))]⟩, [0, 3], [(.ret, [2], ⟨[(true, .arr .bool)], [.one (.pl .bool)]⟩), (.norm, [], ⟨[(true, .arr .bool)], []⟩)]⟩,
  ⟨[1, 3], ⟨[(true, .box [.pl XNc])], [.one (.ptr 0 0), .one (.pl (.int .i64))]⟩, [], [(.ret, [2], ⟨[(true, .box [.pl XNc])], [.one (.pl .bool)]⟩)]⟩,
  ⟨[1, 3, 4], ⟨[(true, .box [.pl XNc]), (true, .box [.pl XNc])], [.one (.ptr 0 0), .one (.pl (.int .i64)), .one (.ptr 1 0)]⟩, [], [(.ret, [2], ⟨[(true, .box [.pl XNc]), (true, .box [.pl XNc])], [.one (.pl .bool)]⟩)]⟩,
  ⟨[0, 3, 4, 5, 41, 42, 43], ⟨[(true, .arr .bool), (true, .box [.pl XNc]), (true, .arr (.int .i64))], [.one (.pl XLc), .one (.sl 0), .one (.pl (.int .i64)), .one (.ptr 1 0), .one (.sl 2), .one (.pl (.int .i64)), .one (.pl (.int .i64))]⟩, [0, 3, 30, 31, 32], [(.ret, [2], ⟨[(true, .arr .bool), (true, .box [.pl XNc]), (true, .arr (.int .i64))], [.one (.pl .bool)]⟩), (.norm, [], ⟨[(true, .arr .bool), (true, .box [.pl XNc]), (true, .arr (.int .i64))], []⟩)]⟩,
  ⟨[0, 1, 7, 8], ⟨[], [.one (.pl (.list .bool)), .one (.pl .bool), .one (.pl (.int .i64)), .one (.pl (.int .i64))]⟩, [], [(.ret, [4], ⟨[], [.one (.pl (.int .i64))]⟩), (.norm, [], ⟨[], []⟩)]⟩,
  noBlk,
  noBlk,
  noBlk,
  noBlk,
  noBlk,
  noBlk,
  ⟨[3, 11, 12, 13], ⟨[(true, .arr (.int .i64))], [.one (.sl 0), .one (.pl XLc), .one (.pl (.int .i64)), .one (.pl (.int .i64))]⟩, [2, 3], [(.norm, [], ⟨[(true, .arr (.int .i64))], []⟩)]⟩,
  ⟨[3, 4, 19, 20, 21], ⟨[(true, .arr (.int .i64)), (true, .arr (.int .i64))], [.one (.sl 0), .one (.pl (.int .i64)), .one (.sl 1), .one (.pl (.int .i64)), .one (.pl (.int .i64))]⟩, [3, 4, 11, 12, 13], [(.norm, [], ⟨[(true, .arr (.int .i64)), (true, .arr (.int .i64))], []⟩)]⟩,
  noBlk,
  ⟨[0, 1, 7, 15, 16, 17], ⟨[(false, .arr XNc), (true, .arr (.int .i64))], [.one (.sl 0), .one (.pl XLc), .one (.sl 1), .one (.sl 1), .one (.pl (.int .i64)), .one (.pl (.int .i64))]⟩, [1, 2, 6, 7], [(.norm, [0], ⟨[(true, .gone), (true, .arr (.int .i64)), (true, .arr XNc)], [.one (.sl 2)]⟩)]⟩,
  noBlk,
  ⟨[0, 1, 7, 8], ⟨[(true, .box [.pl XNc])], [.one (.pl XPc), .one (.fn 48 [] [some 0]), .one (.pl (.int .i64)), .one (.pl (.int .i64))]⟩, [], [(.ret, [4], ⟨[(true, .box [.pl XNc])], [.one (.pl (.int .i64))]⟩), (.norm, [], ⟨[(true, .box [.pl XNc])], []⟩)]⟩,
  ⟨[0, 1, 7, 8], ⟨[(true, .box [.pl XNc])], [.one (.pl (.list XUc)), .one (.fn 50 [] [some 0]), .one (.pl (.int .i64)), .one (.pl (.int .i64))]⟩, [], [(.ret, [4], ⟨[(true, .box [.pl XNc])], [.one (.pl (.int .i64))]⟩), (.norm, [], ⟨[(true, .box [.pl XNc])], []⟩)]⟩,
  noBlk,
  ⟨[0, 2, 7, 8], ⟨[(true, .arr (.int .i64)), (false, .arr (.int .i64))], [.one (.pl XLc), .one (.sl 0), .one (.sl 1), .one (.pl (.int .i64))]⟩, [6], [(.norm, [7], ⟨[(true, .arr (.int .i64)), (true, .gone), (true, .arr (.int .i64))], [.one (.sl 2)]⟩)]⟩,
  noBlk,
  noBlk,
  noBlk,
  ⟨[0, 2, 3], ⟨[(true, .arr (.int .i64))], [.one (.sl 0), .one (.pl (.int .i64)), .one (.pl (.int .i64))]⟩, [], [(.norm, [], ⟨[(true, .arr (.int .i64))], []⟩)]⟩,
  ⟨[12, 76, 77, 78], ⟨[(true, .arr (.int .i64))], [.one (.sl 0), .one (.pl XPc), .one (.pl (.int .i64)), .one (.pl (.int .i64))]⟩, [0, 3, 6, 11], [(.ret, [8, 9], ⟨[(true, .arr (.int .i64))], [.one (.pl (.int .i64)), .one (.pl (.int .i64))]⟩), (.norm, [], ⟨[(true, .arr (.int .i64))], []⟩)]⟩,
  ⟨[3, 6, 15, 16], ⟨[(true, .arr (.int .i64)), (true, .box [.pl XNc]), (true, .box [.pl (.prod (.int .i64) (.int .i64))])], [.one (.sl 0), .one (.ptr 1 0), .one (.ptr 2 0), .one (.pl (.int .i64))]⟩, [], [(.ret, [8, 9], ⟨[(true, .arr (.int .i64)), (true, .box [.pl XNc]), (true, .box [.pl (.prod (.int .i64) (.int .i64))])], [.one (.pl (.int .i64)), .one (.pl (.int .i64))]⟩)]⟩,
  ⟨[3, 15, 16, 131, 132, 133], ⟨[(true, .arr (.int .i64)), (true, .box [.pl (.prod (.int .i64) (.int .i64))]), (true, .arr (.int .i64))], [.one (.sl 0), .one (.ptr 1 0), .one (.pl (.int .i64)), .one (.sl 2), .one (.pl (.int .i64)), .one (.pl (.int .i64))]⟩, [15], [(.ret, [8, 9], ⟨[(true, .arr (.int .i64)), (true, .box [.pl (.prod (.int .i64) (.int .i64))]), (true, .arr (.int .i64))], [.one (.pl (.int .i64)), .one (.pl (.int .i64))]⟩), (.norm, [16], ⟨[(true, .arr (.int .i64)), (true, .box [.pl (.prod (.int .i64) (.int .i64))]), (true, .arr (.int .i64))], [.one (.pl (.int .i64))]⟩)]⟩,
  noBlk,
  ⟨[0, 8, 9, 26, 27, 28], ⟨[(true, .box [.pl (.prod XPc (.list XUc))]), (false, .arr (.int .i64))], [.one (.pl XLc), .one (.ptr 0 0), .one (.sl 1), .one (.pl XLc), .one (.pl (.int .i64)), .one (.pl (.int .i64))]⟩, [], [(.ret, [6, 7], ⟨[(true, .box [.pl (.prod XPc (.list XUc))]), (true, .gone)], [.one (.pl (.int .i64)), .one (.pl (.int .i64))]⟩), (.norm, [9], ⟨[(true, .box [.pl (.prod XPc (.list XUc))]), (true, .gone), (true, .arr (.int .i64))], [.one (.sl 2)]⟩)]⟩,
  noBlk,
  noBlk,
  noBlk,
  ⟨[0, 3], ⟨[(true, .box [.pl (.prod (.list (.prod (.int .i64) (.prod .str (.int .i64)))) (.prod (.int .i64) (.prod (.int .i64) (.int .i64))))]), (false, .arr (.prod .str (.int .i64)))], [.one (.ptr 0 0), .one (.sl 1)]⟩, [], [(.ret, [2], ⟨[(true, .box [.pl (.prod (.list (.prod (.int .i64) (.prod .str (.int .i64)))) (.prod (.int .i64) (.prod (.int .i64) (.int .i64))))]), (true, .gone), (true, .arr (.prod .str (.int .i64)))], [.one (.sl 2)]⟩), (.norm, [], ⟨[(true, .box [.pl (.prod (.list (.prod (.int .i64) (.prod .str (.int .i64)))) (.prod (.int .i64) (.prod (.int .i64) (.int .i64))))]), (true, .gone)], []⟩)]⟩,
  noBlk,
  ⟨[0, 3, 4, 5], ⟨[(true, .box [.pl (.prod (.list (.prod (.int .i64) (.prod .str (.int .i64)))) (.prod (.int .i64) (.prod (.int .i64) (.int .i64))))]), (true, .box [.pl (.prod (.int .i64) (.int .i64))])], [.one (.ptr 0 0), .one (.pl XLc), .one (.pl (.int .i64)), .one (.ptr 1 0)]⟩, [], [(.ret, [2], ⟨[(true, .box [.pl (.prod (.list (.prod (.int .i64) (.prod .str (.int .i64)))) (.prod (.int .i64) (.prod (.int .i64) (.int .i64))))]), (true, .box [.pl (.prod (.int .i64) (.int .i64))])], [.one (.pl XLc)]⟩)]⟩,
  noBlk,
  ⟨[0, 3], ⟨[(true, .box [.pl (.prod (.list (.prod (.int .i64) (.prod .str (.int .i64)))) (.prod (.int .i64) (.prod (.int .i64) (.int .i64))))]), (false, .arr XLc)], [.one (.ptr 0 0), .one (.sl 1)]⟩, [], [(.ret, [2], ⟨[(true, .box [.pl (.prod (.list (.prod (.int .i64) (.prod .str (.int .i64)))) (.prod (.int .i64) (.prod (.int .i64) (.int .i64))))]), (true, .gone), (true, .arr XLc)], [.one (.sl 2)]⟩), (.norm, [], ⟨[(true, .box [.pl (.prod (.list (.prod (.int .i64) (.prod .str (.int .i64)))) (.prod (.int .i64) (.prod (.int .i64) (.int .i64))))]), (true, .gone)], []⟩)]⟩,
  ⟨[0, 3], ⟨[(true, .box [.pl (.prod (.list (.prod (.int .i64) (.prod .str (.int .i64)))) (.prod (.int .i64) (.prod (.int .i64) (.int .i64))))]), (false, .arr XIc)], [.one (.ptr 0 0), .one (.sl 1)]⟩, [0, 2], [(.norm, [3], ⟨[(true, .box [.pl (.prod (.list (.prod (.int .i64) (.prod .str (.int .i64)))) (.prod (.int .i64) (.prod (.int .i64) (.int .i64))))]), (true, .gone), (true, .arr XIc)], [.one (.sl 2)]⟩)]⟩,
  noBlk,
  ⟨[0, 3], ⟨[(true, .box [.pl (.prod (.list (.prod (.int .i64) (.prod .str (.int .i64)))) (.prod (.int .i64) (.prod (.int .i64) (.int .i64))))]), (false, .arr (.prod .str (.int .i64)))], [.one (.ptr 0 0), .one (.sl 1)]⟩, [], [(.ret, [2], ⟨[(true, .box [.pl (.prod (.list (.prod (.int .i64) (.prod .str (.int .i64)))) (.prod (.int .i64) (.prod (.int .i64) (.int .i64))))]), (true, .gone), (true, .arr (.prod .str (.int .i64)))], [.one (.sl 2)]⟩), (.norm, [], ⟨[(true, .box [.pl (.prod (.list (.prod (.int .i64) (.prod .str (.int .i64)))) (.prod (.int .i64) (.prod (.int .i64) (.int .i64))))]), (true, .gone)], []⟩)]⟩,
  noBlk,
  ⟨[0, 3], ⟨[(true, .box [.pl (.prod (.list (.prod (.int .i64) (.prod .str (.int .i64)))) (.prod (.int .i64) (.prod (.int .i64) (.int .i64))))]), (false, .arr (.prod .str XLc))], [.one (.ptr 0 0), .one (.sl 1)]⟩, [0, 2], [(.norm, [3], ⟨[(true, .box [.pl (.prod (.list (.prod (.int .i64) (.prod .str (.int .i64)))) (.prod (.int .i64) (.prod (.int .i64) (.int .i64))))]), (true, .gone), (true, .arr (.prod .str XLc))], [.one (.sl 2)]⟩)]⟩,
  noBlk,
  noBlk,
  noBlk,
  noBlk,
  noBlk,
  noBlk,
  noBlk,
  noBlk,
  noBlk,
  noBlk,
  noBlk,
  noBlk,
  noBlk,
  noBlk,
  ⟨[6, 7], ⟨[(true, .box [.pl (.prod (.list (.prod (.int .i64) (.prod .str (.int .i64)))) (.prod (.int .i64) (.prod (.int .i64) (.int .i64))))]), (true, .box [.sl 2, .pl .str, .pl .str]), (false, .arr XUc)], [.one (.ptr 0 0), .one (.ptr 1 0)]⟩, [2, 3, 6, 7], [(.norm, [], ⟨[(true, .box [.pl (.prod (.list (.prod (.int .i64) (.prod .str (.int .i64)))) (.prod (.int .i64) (.prod (.int .i64) (.int .i64))))]), (true, .box [.sl 3, .pl .str, .pl .str]), (true, .gone), (true, .arr XUc)], []⟩)]⟩,
  ⟨[2, 3, 6, 7], ⟨[(true, .box [.sl 4, .pl .str, .pl .str]), (true, .box [.pl (.prod (.int .i64) (.int .i64))]), (true, .box [.pl (.prod (.list (.prod (.int .i64) (.prod .str (.int .i64)))) (.prod (.int .i64) (.prod (.int .i64) (.int .i64))))]), (true, .box [.sl 5, .pl .str, .pl .str]), (true, .arr XUc), (true, .arr XUc)], [.one (.ptr 0 0), .one (.ptr 1 0), .one (.ptr 2 0), .one (.ptr 3 0)]⟩, [2, 3], [(.ret, [], ⟨[(true, .box [.sl 6, .pl .str, .pl .str]), (true, .box [.pl (.prod (.int .i64) (.int .i64))]), (true, .box [.pl (.prod (.list (.prod (.int .i64) (.prod .str (.int .i64)))) (.prod (.int .i64) (.prod (.int .i64) (.int .i64))))]), (true, .box [.sl 5, .pl .str, .pl .str]), (true, .arr XUc), (true, .arr XUc), (true, .arr XUc)], []⟩), (.ret, [], ⟨[(true, .box [.sl 5, .pl .str, .pl .str]), (true, .box [.pl (.prod (.int .i64) (.int .i64))]), (true, .box [.pl (.prod (.list (.prod (.int .i64) (.prod .str (.int .i64)))) (.prod (.int .i64) (.prod (.int .i64) (.int .i64))))]), (true, .box [.sl 5, .pl .str, .pl .str]), (true, .arr XUc), (true, .arr XUc)], []⟩)]⟩,
  ⟨[1, 2, 7, 8, 9], ⟨[(true, .box [.pl (.prod (.list XUc) (.prod .str .str))]), (true, .box [.pl (.prod (.int .i64) (.int .i64))])], [.one (.ptr 0 0), .one (.ptr 1 0), .one (.pl (.list XUc)), .one (.pl (.int .i64)), .one (.pl (.int .i64))]⟩, [2], [(.ret, [], ⟨[(true, .box [.pl (.prod (.list XUc) (.prod .str .str))]), (true, .box [.pl (.prod (.int .i64) (.int .i64))])], []⟩), (.norm, [], ⟨[(true, .box [.pl (.prod (.list XUc) (.prod .str .str))]), (true, .box [.pl (.prod (.int .i64) (.int .i64))])], []⟩)]⟩,
  noBlk,
  noBlk,
  ⟨[0, 1, 11, 12, 13], ⟨[(true, .box [.cl (.prod .str (.int .i64)), .pl (.list XUc)])], [.one (.ptr 0 0), .one (.pl (.int .i64)), .one (.pl (.list XLc)), .one (.pl (.int .i64)), .one (.pl (.int .i64))]⟩, [], [(.ret, [6], ⟨[(true, .box [.cl (.prod .str (.int .i64)), .pl (.list XUc)])], [.one (.pl (.int .i64))]⟩), (.norm, [], ⟨[(true, .box [.cl (.prod .str (.int .i64)), .pl (.list XUc)])], []⟩)]⟩,
  ⟨[5], ⟨[], [.one (.pl (.int .i64))]⟩, [], [(.ret, [4], ⟨[], [.one (.pl (.int .i64))]⟩)]⟩,
  noBlk,
  noBlk,
  noBlk,
  noBlk,
  ⟨[0, 1, 11, 12, 13], ⟨[(true, .box [.sl 1, .pl (.list XUc)]), (true, .arr (.prod .str (.int .i64)))], [.one (.ptr 0 0), .one (.pl (.int .i64)), .one (.pl (.list XLc)), .one (.pl (.int .i64)), .one (.pl (.int .i64))]⟩, [], [(.ret, [6], ⟨[(true, .box [.sl 1, .pl (.list XUc)]), (true, .arr (.prod .str (.int .i64)))], [.one (.pl (.int .i64))]⟩), (.norm, [], ⟨[(true, .box [.sl 1, .pl (.list XUc)]), (true, .arr (.prod .str (.int .i64)))], []⟩)]⟩,
  ⟨[1, 9, 10], ⟨[], [.one (.pl (.int .i64)), .one (.pl (.int .i64)), .one (.pl (.int .i64))]⟩, [0, 1, 11, 12, 13], [(.ret, [6], ⟨[], [.one (.pl (.int .i64))]⟩), (.norm, [], ⟨[], []⟩)]⟩,
  ⟨[5], ⟨[], [.one (.pl (.int .i64))]⟩, [], [(.ret, [4], ⟨[], [.one (.pl (.int .i64))]⟩)]⟩,
  noBlk,
  noBlk,
  noBlk,
  noBlk,
  ⟨[0, 1, 7, 8], ⟨[(true, .box [.pl (.prod .str XLc)])], [.one (.pl XPc), .one (.fn 66 [] [some 0]), .one (.pl (.int .i64)), .one (.pl (.int .i64))]⟩, [], [(.ret, [4], ⟨[(true, .box [.pl (.prod .str XLc)])], [.one (.pl (.int .i64))]⟩), (.norm, [], ⟨[(true, .box [.pl (.prod .str XLc)])], []⟩)]⟩,
  ⟨[1, 2, 5], ⟨[(true, .box [.pl XUc]), (true, .arr (.prod .str (.int .i64)))], [.one (.pl (.list XUc)), .one (.ptr 0 0), .one (.sl 1)]⟩, [], [(.ret, [4], ⟨[(true, .box [.pl XUc]), (true, .gone)], [.one (.pl (.int .i64))]⟩)]⟩,
  ⟨[6, 33, 34, 35], ⟨[(true, .box [.cl (.prod .str (.int .i64)), .pl (.list XUc)])], [.one (.ptr 0 0), .one (.pl (.list XIc)), .one (.pl (.int .i64)), .one (.pl (.int .i64))]⟩, [1, 2, 5], [(.ret, [4], ⟨[(true, .box [.sl 1, .pl (.list XUc)]), (true, .arr (.prod .str (.int .i64)))], [.one (.pl (.int .i64))]⟩), (.norm, [], ⟨[(true, .box [.sl 1, .pl (.list XUc)]), (true, .arr (.prod .str (.int .i64)))], []⟩), (.ret, [4], ⟨[(true, .box [.cl (.prod .str (.int .i64)), .pl (.list XUc)])], [.one (.pl (.int .i64))]⟩), (.norm, [], ⟨[(true, .box [.cl (.prod .str (.int .i64)), .pl (.list XUc)])], []⟩)]⟩,
  ⟨[6, 33, 34, 35], ⟨[(true, .box [.sl 1, .pl (.list XUc)]), (false, .arr (.prod .str (.int .i64)))], [.one (.ptr 0 0), .one (.pl (.list XIc)), .one (.pl (.int .i64)), .one (.pl (.int .i64))]⟩, [], [(.ret, [4], ⟨[(true, .box [.sl 2, .pl (.list XUc)]), (true, .gone), (true, .arr (.prod .str (.int .i64)))], [.one (.pl (.int .i64))]⟩), (.norm, [], ⟨[(true, .box [.sl 2, .pl (.list XUc)]), (true, .gone), (true, .arr (.prod .str (.int .i64)))], []⟩)]⟩,
  ⟨[5, 6, 51, 52, 53], ⟨[(true, .box [.pl (.prod XPc (.list XUc))])], [.one (.pl XPc), .one (.ptr 0 0), .one (.pl (.list (.prod .str XLc))), .one (.pl (.int .i64)), .one (.pl (.int .i64))]⟩, [], [(.ret, [4], ⟨[(true, .box [.pl (.prod XPc (.list XUc))])], [.one (.pl (.int .i64))]⟩), (.norm, [], ⟨[(true, .box [.pl (.prod XPc (.list XUc))])], []⟩)]⟩,
  ⟨[0, 1, 11, 12, 13], ⟨[(true, .box [.pl (.prod XPc (.list XUc))])], [.one (.ptr 0 0), .one (.pl (.int .i64)), .one (.pl (.list XLc)), .one (.pl (.int .i64)), .one (.pl (.int .i64))]⟩, [], [(.ret, [6], ⟨[(true, .box [.pl (.prod XPc (.list XUc))])], [.one (.pl (.int .i64))]⟩), (.norm, [], ⟨[(true, .box [.pl (.prod XPc (.list XUc))])], []⟩)]⟩,
  ⟨[1, 3], ⟨[(true, .box [.pl (.prod (.list XUc) (.prod .str .str))])], [.one (.ptr 0 0), .one (.pl (.int .i64))]⟩, [], [(.ret, [2], ⟨[(true, .box [.pl (.prod (.list XUc) (.prod .str .str))])], [.one (.pl .bool)]⟩), (.norm, [], ⟨[(true, .box [.pl (.prod (.list XUc) (.prod .str .str))])], []⟩)]⟩,
  ⟨[4, 5], ⟨[(true, .box [.pl XUc])], [.one (.ptr 0 0), .one (.pl (.int .i64))]⟩, [1, 3, 4], [(.ret, [2], ⟨[(true, .box [.pl XUc])], [.one (.pl .bool)]⟩), (.norm, [], ⟨[(true, .box [.pl XUc])], []⟩)]⟩,
  ⟨[4, 6], ⟨[(true, .box [.pl XUc])], [.one (.ptr 0 0), .one (.pl (.int .i64))]⟩, [1, 3], [(.ret, [2], ⟨[(true, .box [.pl XUc])], [.one (.pl .bool)]⟩), (.norm, [], ⟨[(true, .box [.pl XUc])], []⟩)]⟩,
  ⟨[7, 8], ⟨[(true, .box [.pl XIc])], [.one (.ptr 0 0), .one (.pl (.int .i64))]⟩, [4, 6], [(.ret, [2], ⟨[(true, .box [.pl XIc])], [.one (.pl .bool)]⟩), (.norm, [], ⟨[(true, .box [.pl XIc])], []⟩)]⟩,
  ⟨[0, 1, 2, 9], ⟨[], [.one (.pl XLc), .one (.pl XPc), .one (.pl (.list XUc)), .one (.pl (.int .i64))]⟩, [0, 1, 2, 7], [(.ret, [6], ⟨[], [.one (.pl .bool)]⟩), (.norm, [], ⟨[], []⟩)]⟩,
  ⟨[0, 3, 4], ⟨[(true, .arr (.int .i64))], [.one (.pl XLc), .one (.sl 0), .one (.pl (.int .i64))]⟩, [0, 3], [(.ret, [2], ⟨[(true, .arr (.int .i64))], [.one (.pl .bool)]⟩), (.norm, [], ⟨[(true, .arr (.int .i64))], []⟩)]⟩,
  ⟨[3, 4, 5, 6], ⟨[(true, .arr (.int .i64)), (true, .arr (.int .i64))], [.one (.sl 0), .one (.pl (.int .i64)), .one (.sl 1), .one (.pl (.int .i64))]⟩, [0, 3, 4], [(.ret, [2], ⟨[(true, .arr (.int .i64)), (true, .arr (.int .i64))], [.one (.pl .bool)]⟩), (.norm, [], ⟨[(true, .arr (.int .i64)), (true, .arr (.int .i64))], []⟩)]⟩,
  ⟨[0, 5, 6, 7], ⟨[(true, .box [.pl XNc]), (true, .arr (.int .i64))], [.one (.pl XLc), .one (.ptr 0 0), .one (.sl 1), .one (.pl (.int .i64))]⟩, [], [(.ret, [4], ⟨[(true, .box [.pl XNc]), (true, .arr (.int .i64))], [.one (.pl .bool)]⟩), (.norm, [], ⟨[(true, .box [.pl XNc]), (true, .arr (.int .i64))], []⟩)]⟩,
  ⟨[0, 3, 7], ⟨[(true, .arr (.int .i64))], [.one (.pl XLc), .one (.sl 0), .one (.pl (.int .i64))]⟩, [0], [(.ret, [2], ⟨[(true, .arr (.int .i64))], [.one (.pl .bool)]⟩), (.norm, [], ⟨[(true, .arr (.int .i64))], []⟩)]⟩,
  noBlk,
  ⟨[0, 2, 7, 8, 9], ⟨[(false, .arr XNc), (true, .arr (.int .i64)), (false, .arr (.int .i64))], [.one (.pl XLc), .one (.sl 0), .one (.sl 1), .one (.sl 2), .one (.pl (.int .i64))]⟩, [0, 1, 6], [(.norm, [2, 8], ⟨[(true, .gone), (true, .arr (.int .i64)), (true, .gone), (true, .arr XNc), (true, .arr (.int .i64))], [.one (.sl 3), .one (.sl 4)]⟩)]⟩,
  noBlk,
  noBlk,
  ⟨[0, 1, 5], ⟨[], [.one (.pl (.list .str)), .one (.pl .str), .one (.pl (.int .i64))]⟩, [], [(.ret, [4], ⟨[], [.one (.pl (.int .i64))]⟩), (.norm, [], ⟨[], []⟩)]⟩,
  noBlk,
  noBlk,
  noBlk,
  noBlk,
  noBlk,
  noBlk,
  ⟨[2, 7], ⟨[], [.one (.pl (.list XLc)), .one (.pl (.int .i64))]⟩, [0, 1, 2], [(.ret, [6], ⟨[(true, .arr XNc)], [.one (.sl 0)]⟩), (.norm, [], ⟨[], []⟩)]⟩,
  ⟨[0, 1, 2, 8, 9, 10], ⟨[(true, .arr XNc), (false, .arr XNc), (true, .arr (.int .i64))], [.one (.sl 0), .one (.pl (.list .str)), .one (.pl (.list XLc)), .one (.sl 1), .one (.sl 2), .one (.pl (.int .i64))]⟩, [6], [(.norm, [8], ⟨[(true, .arr XNc), (true, .gone), (true, .arr (.int .i64)), (true, .arr XNc)], [.one (.sl 3)]⟩)]⟩,
  ⟨[0, 2, 8, 9, 10, 11], ⟨[(true, .arr XNc), (true, .arr XNc), (true, .arr (.int .i64))], [.one (.sl 0), .one (.pl (.list XLc)), .one (.sl 1), .one (.sl 2), .one (.pl (.int .i64)), .one (.pl (.int .i64))]⟩, [0, 1, 2, 9, 10], [(.norm, [8], ⟨[(true, .arr XNc), (true, .gone), (true, .arr (.int .i64)), (true, .arr XNc)], [.one (.sl 3)]⟩)]⟩,
  ⟨[9, 12, 13, 14], ⟨[(true, .arr (.int .i64)), (true, .arr (.int .i64)), (false, .arr (.int .i64))], [.one (.sl 0), .one (.sl 1), .one (.sl 2), .one (.pl (.int .i64))]⟩, [0, 8, 9, 10], [(.norm, [13], ⟨[(true, .arr (.int .i64)), (true, .arr (.int .i64)), (true, .gone), (true, .arr (.int .i64))], [.one (.sl 3)]⟩)]⟩]
  lkL := [(0, [(0, 122)]), (4, [(0, 8), (2, 9)]), (5, [(0, 2), (2, 4)]), (7, [(0, 3)]), (10, [(0, 5)]), (12, [(0, 6)]), (13, [(0, 7)]), (18, [(0, 26)]), (19, [(0, 24)]), (20, [(0, 22)]), (22, [(0, 20)]), (23, [(0, 18)]), (28, [(0, 14)]), (31, [(0, 13)]), (37, [(0, 16)]), (43, [(0, 34), (2, 35)]), (44, [(0, 66)]), (45, [(0, 38), (2, 41)]), (50, [(0, 42)]), (52, [(0, 49), (2, 50)]), (54, [(0, 52)]), (55, [(1, 62), (3, 64)]), (56, [(0, 54)]), (58, [(0, 55)]), (60, [(0, 57)]), (61, [(0, 61)]), (63, [(0, 94)]), (75, [(0, 70)]), (79, [(0, 75)]), (83, [(0, 74)]), (84, [(0, 77)]), (85, [(0, 79)]), (86, [(0, 96)]), (87, [(0, 114), (2, 116)]), (91, [(0, 99)]), (93, [(0, 105)]), (94, [(0, 112)]), (96, [(0, 117)]), (97, [(0, 118), (2, 119), (4, 120), (6, 121)]), (99, [(0, 123), (2, 124), (4, 126)]), (102, [(0, 125)]), (103, [(0, 128)]), (106, [(0, 138), (2, 139), (4, 141)]), (107, [(0, 131)])]
  tkL := [(15, [(3, 37)]), (46, [(9, 39), (10, 40)]), (55, [(26, 63)]), (63, [(15, 95)]), (82, [(4, 72)]), (87, [(4, 113)]), (90, [(5, 100)]), (92, [(5, 107)]), (93, [(5, 106)]), (106, [(17, 140)])]
  dkL := [(3, [(3, ([3], (.take 0 (.take 1 (.only 2 .done))))), (6, ([3], (.take 0 (.take 1 (.only 2 .done))))), (8, ([3], (.take 0 (.take 1 (.take 2 (.take 3 (.take 4 (.take 5 (.take 6 (.only 7 .done))))))))))]),
  (13, [(5, ([], (.take 0 (.take 1 (.take 2 (.take 3 (.take 4 (.take 5 (.take 6 (.take 7 (.take 8 (.take 9 (.take 10 (.take 11 (.take 12 (.take 13 (.take 14 (.take 15 (.take 16 (.take 17 (.take 18 (.take 19 (.take 20 (.take 21 .done))))))))))))))))))))))))]),
  (15, [(6, ([6], (.take 0 (.take 1 (.take 2 (.take 3 (.take 4 (.take 5 (.only 6 .done))))))))), (11, ([6], (.take 0 (.take 1 (.take 2 (.take 3 (.take 4 (.take 5 (.take 6 (.take 7 (.only 8 .done)))))))))))]),
  (24, [(5, ([], (.take 0 (.take 1 (.take 2 (.take 3 (.take 4 (.take 5 (.take 6 (.take 7 (.take 8 (.take 9 .done)))))))))))), (8, ([], (.take 0 (.take 1 (.take 2 (.take 3 (.take 4 (.take 5 (.take 6 (.take 7 (.take 8 (.take 9 (.only 10 (.only 11 .done))))))))))))))]),
  (25, [(2, ([0], (.take 0 (.take 1 (.take 2 (.take 3 (.take 4 (.take 6 (.take 7 (.take 8 (.alt 5 (.only 9 (.only 10 (.take 11 (.take 12 (.take 13 (.only 14 .done)))))) (.only 9 (.only 5 (.only 10 (.take 11 (.take 12 (.take 13 (.only 14 .done))))))))))))))))))]),
  (36, [(1, ([], (.take 0 (.take 1 (.take 2 (.take 3 (.take 4 (.take 5 (.take 6 (.take 7 (.take 8 (.take 9 (.take 10 (.take 11 (.take 12 (.take 13 (.take 14 (.take 15 (.take 16 (.take 17 .done)))))))))))))))))))), (3, ([], (.take 0 (.take 1 (.take 2 (.take 3 (.take 4 (.take 5 (.take 6 (.take 7 (.take 8 (.take 9 (.only 10 (.only 11 .done))))))))))))))]),
  (40, [(2, ([], (.take 0 (.take 1 (.take 2 (.take 3 (.take 4 (.take 5 (.take 6 (.take 7 (.take 8 (.take 9 (.take 10 (.take 11 (.take 12 (.take 13 (.take 14 (.take 15 (.take 16 (.take 17 (.take 18 (.take 19 (.take 20 (.take 21 (.take 22 (.take 23 (.take 24 (.take 25 (.take 26 (.take 27 (.take 28 (.take 29 (.take 30 (.take 31 (.take 32 (.take 33 (.take 34 (.take 35 (.only 36 (.take 37 (.take 38 .done))))))))))))))))))))))))))))))))))))))))), (4, ([], (.take 0 (.take 1 (.take 2 (.take 3 (.take 4 (.take 5 (.take 6 (.take 7 (.take 8 (.take 9 (.take 10 (.only 11 (.take 12 .done)))))))))))))))]),
  (43, [(11, ([3], (.take 0 (.take 1 (.take 2 (.take 3 (.take 4 (.take 6 (.take 7 (.take 8 (.take 9 (.take 10 (.take 11 (.alt 5 (.only 12 (.take 13 (.take 14 (.take 15 (.only 16 .done))))) (.only 12 (.take 13 (.only 5 (.take 14 (.take 15 (.only 16 .done))))))))))))))))))))]),
  (46, [(9, ([], (.take 0 (.take 1 (.take 2 (.take 3 (.take 4 (.take 5 (.take 6 (.take 7 (.alt 8 (.alt 9 (.only 10 (.only 11 .done)) (.only 10 (.only 9 (.only 11 .done)))) (.only 10 (.only 8 (.only 9 (.only 11 .done)))))))))))))))]),
  (48, [(2, ([2], (.take 0 (.take 1 (.take 2 (.take 3 (.take 4 (.take 5 (.take 6 (.only 7 (.take 8 (.only 9 .done))))))))))))]),
  (52, [(9, ([3], (.take 0 (.take 1 (.take 2 (.take 3 (.take 4 (.take 6 (.take 7 (.take 8 (.alt 5 (.only 9 (.take 10 (.take 11 (.only 12 .done)))) (.only 9 (.only 5 (.take 10 (.take 11 (.only 12 .done))))))))))))))))]),
  (55, [(17, ([], (.take 0 (.take 1 (.take 2 (.take 3 (.take 4 (.take 5 (.take 6 .done))))))))), (22, ([], (.take 0 (.take 1 (.take 2 (.take 3 (.take 4 (.take 5 (.take 6 (.take 7 (.take 8 (.take 9 (.take 10 (.take 11 (.take 12 (.take 13 (.take 14 (.take 15 (.take 16 (.take 17 (.take 18 .done))))))))))))))))))))), (25, ([], (.take 1 (.take 2 (.alt 0 (.take 3 (.only 4 (.only 5 (.take 6 .done)))) (.only 4 (.only 0 (.take 3 (.only 5 (.take 6 .done)))))))))), (29, ([], (.take 0 (.take 1 (.take 2 (.take 3 (.take 4 (.take 5 (.take 6 (.take 7 (.take 8 (.take 9 (.take 10 (.take 11 (.take 12 (.take 13 (.take 14 (.take 15 (.take 16 (.take 17 (.take 18 (.take 19 (.take 20 (.take 21 (.take 22 (.take 23 .done))))))))))))))))))))))))))]),
  (61, [(3, ([0], (.take 0 (.take 1 (.take 2 (.take 3 (.take 4 (.take 5 (.take 6 (.take 8 (.take 9 (.take 10 (.alt 7 (.only 11 (.take 12 (.only 13 (.take 14 (.only 15 .done))))) (.only 11 (.only 7 (.take 12 (.only 13 (.take 14 (.only 15 .done)))))))))))))))))))]),
  (63, [(3, ([2, 3], (.take 0 (.take 1 (.only 2 (.only 3 .done)))))), (8, ([6, 7, 30], (.take 0 (.take 2 (.alt 1 (.only 3 (.only 4 (.only 5 (.take 6 (.only 7 .done))))) (.only 3 (.alt 1 (.only 4 (.only 5 (.take 6 (.only 7 .done)))) (.only 4 (.only 1 (.only 5 (.take 6 (.only 7 .done)))))))))))), (15, ([6], (.take 0 (.only 1 (.take 2 (.take 3 (.take 4 (.take 5 (.take 7 (.take 8 (.take 9 (.alt 6 (.only 10 (.take 11 (.take 12 (.take 13 .done)))) (.only 10 (.take 11 (.only 6 (.take 12 (.take 13 .done))))))))))))))))), (18, ([2, 3], (.take 0 (.take 1 (.take 2 (.take 3 (.take 4 (.only 5 (.only 6 .done)))))))))]),
  (64, [(1, ([0], (.take 0 (.only 1 (.take 2 (.take 3 (.take 4 (.take 5 (.take 6 (.take 8 (.take 9 (.take 10 (.alt 7 (.only 11 (.take 12 (.take 13 (.take 14 .done)))) (.only 11 (.take 12 (.only 7 (.take 13 (.take 14 .done)))))))))))))))))), (3, ([], (.take 0 (.take 1 (.take 2 (.take 3 (.take 4 (.take 5 (.take 6 (.take 7 (.take 8 (.take 9 (.only 10 (.only 11 .done))))))))))))))]),
  (67, [(1, ([0], (.take 0 (.take 1 (.take 2 (.take 3 (.take 4 (.take 6 (.take 7 (.take 8 (.alt 5 (.only 9 (.only 10 (.take 11 (.take 12 (.take 13 (.only 14 .done)))))) (.only 9 (.only 5 (.only 10 (.take 11 (.take 12 (.take 13 (.only 14 .done))))))))))))))))))]),
  (70, [(1, ([0], (.take 0 (.only 1 (.take 2 (.take 3 (.take 4 (.take 5 (.take 6 (.take 8 (.take 9 (.take 10 (.alt 7 (.only 11 (.take 12 (.take 13 (.take 14 .done)))) (.only 11 (.take 12 (.only 7 (.take 13 (.take 14 .done)))))))))))))))))), (3, ([], (.take 0 (.take 1 (.take 2 (.take 3 (.take 4 (.take 5 (.take 6 (.take 7 (.take 8 (.take 9 (.only 10 (.only 11 .done))))))))))))))]),
  (72, [(5, ([], (.take 0 (.take 1 (.take 2 (.take 3 (.take 4 (.take 5 (.take 6 (.take 7 (.take 8 (.take 9 (.take 10 (.take 11 (.take 12 .done)))))))))))))))]),
  (73, [(1, ([0], (.take 0 (.only 1 (.take 2 (.take 3 (.take 4 (.take 5 (.take 7 (.take 8 (.take 9 (.alt 6 (.only 10 (.take 11 (.take 12 (.take 13 (.take 14 (.take 15 (.take 16 (.take 17 (.take 19 (.take 20 (.take 21 (.alt 18 (.only 22 (.take 23 (.take 24 (.take 25 (.take 26 (.take 27 (.take 28 .done))))))) (.only 22 (.only 18 (.take 23 (.take 24 (.take 25 (.take 26 (.take 27 (.take 28 .done)))))))))))))))))))) (.only 10 (.take 11 (.only 6 (.take 12 (.take 13 (.take 14 (.take 15 (.take 16 (.take 17 (.take 19 (.take 20 (.take 21 (.alt 18 (.only 22 (.take 23 (.take 24 (.take 25 (.take 26 (.take 27 (.take 28 .done))))))) (.only 22 (.only 18 (.take 23 (.take 24 (.take 25 (.take 26 (.take 27 (.take 28 .done)))))))))))))))))))))))))))))))))]),
  (74, [(1, ([0], (.take 0 (.take 1 (.take 2 (.take 3 (.take 4 (.take 6 (.take 7 (.take 8 (.alt 5 (.only 9 (.only 10 (.take 11 (.take 12 (.take 13 (.only 14 .done)))))) (.only 9 (.only 5 (.only 10 (.take 11 (.take 12 (.take 13 (.only 14 .done))))))))))))))))))]),
  (82, [(3, ([], (.take 0 (.take 1 (.take 2 (.take 3 (.take 4 (.take 5 (.take 6 (.take 7 (.alt 8 (.take 9 (.take 10 (.take 11 (.take 12 (.only 13 (.take 14 (.take 15 (.only 16 .done)))))))) (.only 13 (.only 8 (.take 9 (.take 10 (.take 11 (.take 12 (.take 14 (.take 15 (.only 16 .done))))))))))))))))))))]),
  (86, [(4, ([], (.take 0 (.take 1 (.take 2 (.take 3 (.take 4 (.only 5 (.take 6 .done)))))))))]),
  (87, [(3, ([16], (.take 0 (.take 1 (.take 2 (.take 5 (.take 6 (.only 3 (.only 4 (.only 7 (.take 8 .done))))))))))), (19, ([6], (.take 0 (.take 1 (.take 2 (.take 3 (.take 4 (.take 5 (.take 6 (.take 7 (.only 8 (.only 9 (.take 10 .done)))))))))))))]),
  (90, [(4, ([0], (.take 0 (.take 1 (.take 2 (.take 3 (.take 5 (.take 6 (.take 7 (.take 8 (.take 9 (.alt 4 (.only 10 (.only 11 (.take 12 (.take 13 (.only 14 .done))))) (.only 10 (.only 4 (.only 11 (.take 12 (.take 13 (.only 14 .done))))))))))))))))))]),
  (91, [(4, ([], (.take 0 (.take 1 (.take 2 (.take 3 (.take 4 (.take 5 (.take 6 (.take 7 (.take 8 (.only 9 (.take 10 (.take 11 (.take 12 (.take 13 (.take 14 .done)))))))))))))))))]),
  (92, [(4, ([0], (.take 0 (.take 1 (.take 2 (.take 3 (.take 5 (.take 6 (.take 7 (.take 8 (.take 9 (.alt 4 (.only 10 (.only 11 (.take 12 (.take 13 (.only 14 .done))))) (.only 10 (.only 4 (.only 11 (.take 12 (.take 13 (.only 14 .done))))))))))))))))))]),
  (93, [(4, ([0], (.take 0 (.take 1 (.take 2 (.take 3 (.take 5 (.take 6 (.take 7 (.alt 4 (.only 8 (.only 9 (.take 10 (.take 11 (.take 12 (.take 13 (.take 14 .done))))))) (.only 8 (.only 4 (.only 9 (.take 10 (.take 11 (.take 12 (.take 13 (.take 14 .done))))))))))))))))))]),
  (96, [(4, ([], (.take 0 (.take 1 (.take 2 (.take 3 (.take 4 (.take 5 (.take 6 (.take 7 (.take 8 (.only 9 (.take 10 (.take 11 (.take 12 (.take 13 (.take 14 .done)))))))))))))))))]),
  (105, [(1, ([], (.take 0 (.take 1 (.take 2 (.take 3 (.take 4 (.take 5 (.take 6 (.take 7 (.take 8 (.take 9 (.take 10 (.take 11 .done))))))))))))))])]
  fnumL := [3, 8, 15, 31, 32, 55, 73, 74, 75, 76, 84, 90, 85, 77, 86, 54, 72, 81, 88, 91, 92, 93, 94, 95, 96, 97, 62, 98, 12, 22, 23, 24, 53, 25, 99, 82, 89, 104, 102, 100, 101, 103, 83, 30, 9, 18, 42, 43, 68, 44, 69, 45, 70, 19, 46, 20, 47, 48, 49, 50, 51, 71, 52, 16, 33, 39, 34, 40, 35, 38, 33, 39, 37, 61, 40, 56, 36, 34, 58, 57, 78, 79, 80, 87, 59, 60, 17, 41, 63, 64, 65, 67, 65, 67, 47, 66, 67, 7, 10, 14, 27, 28, 29, 21, 11, 4, 13, 26, 5, 6]
  fnL := [Try.f3, Try.f8, Try.f15, Try.f31, Try.f32, Try.f55, Try.f73, Try.f74, Try.f75, Try.f76, Try.f84, Try.f90, Try.f85, Try.f77, Try.f86, Try.f54, Try.f72, Try.f81, Try.f88, Try.f91, Try.f92, Try.f93, Try.f94, Try.f95, Try.f96, Try.f97, Try.f62, Try.f98, Try.f12, Try.f22, Try.f23, Try.f24, Try.f53, Try.f25, Try.f99, Try.f82, Try.f89, Try.f104, Try.f102, Try.f100, Try.f101, Try.f103, Try.f83, Try.f30, Try.f9, Try.f18, Try.f42, Try.f43, Try.f68, Try.f44, Try.f69, Try.f45, Try.f70, Try.f19, Try.f46, Try.f20, Try.f47, Try.f48, Try.f49, Try.f50, Try.f51, Try.f71, Try.f52, Try.f16, Try.f33, Try.f39, Try.f34, Try.f40, Try.f35, Try.f38, Try.f33, Try.f39, Try.f37, Try.f61, Try.f40, Try.f56, Try.f36, Try.f34, Try.f58, Try.f57, Try.f78, Try.f79, Try.f80, Try.f87, Try.f59, Try.f60, Try.f17, Try.f41, Try.f63, Try.f64, Try.f65, Try.f67, Try.f65, Try.f67, Try.f47, Try.f66, Try.f67, Try.f7, Try.f10, Try.f14, Try.f27, Try.f28, Try.f29, Try.f21, Try.f11, Try.f4, Try.f13, Try.f26, Try.f5, Try.f6]
  placeL := [(0, []), (0, []), (5, [true, true, false, true, false, false]), (7, [true, true, false, true]), (5, [true, true, true, false, true, false, false]), (10, [true, true, false, true]), (12, [true, true, false, true]), (13, [true, true, false, true]), (4, [true, true, true, true, false]), (4, [true, true, true, true, false, false, false, true, false, true, false, true, false, false]), (0, []), (0, []), (0, []), (31, [true, true, false, true]), (28, [true, true, true, true, true, true, true, false, true]), (0, []), (37, [true, true, true, false]), (0, []), (23, [true, true, false]), (0, []), (22, [true, true, false]), (0, []), (20, [true, true, false]), (0, []), (19, [true, true, false]), (0, []), (18, [true, true, false]), (0, []), (0, []), (0, []), (0, []), (0, []), (0, []), (0, []), (43, [true, true, false, true]), (43, [true, true, false, true, false, false, true, false, false, true, true, true]), (0, []), (15, [true, true]), (45, [true, true, true, false, true]), (46, [true, true, true]), (46, [true, true, true, true]), (45, [true, true, true, false, true, false, false, true, true, false, false, true, true, true]), (50, [true, false, true]), (0, []), (0, []), (0, []), (0, []), (0, []), (0, []), (52, [true, true, false, true]), (52, [true, true, false, true, false, false, true, true, false, false, true, false, true]), (0, []), (54, [true, true, false, true]), (0, []), (56, [true, false, true]), (58, [true, false, true]), (0, []), (60, [true, true, false, true]), (0, []), (0, []), (0, []), (61, [true]), (55, [true, false, true, false, true, true, true, true, true, false, true, true, true, false, true]), (55, [true, true, true]), (55, [true, true, true, false, true]), (0, []), (44, [true, true, true, true, true, false, true]), (0, []), (0, []), (0, []), (75, [true, true, true, true, false]), (0, []), (82, [true, true, true]), (0, []), (83, [true, true, true, true, false]), (79, [true, true, false]), (0, []), (84, [true, true, false]), (0, []), (85, [true, true, false]), (0, []), (0, []), (0, []), (0, []), (0, []), (0, []), (0, []), (0, []), (0, []), (0, []), (0, []), (0, []), (0, []), (0, []), (63, [true, true, true, true, true, false]), (63, [true, true, true, true, true, true, true, true, true, true]), (86, [true, false, true]), (0, []), (0, []), (91, [true, false, true]), (90, [true, false, true, false, true, false, true, true]), (0, []), (0, []), (0, []), (0, []), (93, [true, false, true]), (93, [true, false, true, false, false, true, true, false, false, true, true]), (92, [true, false, true, false, true, false, true, true]), (0, []), (0, []), (0, []), (0, []), (94, [true, false, true]), (87, [true, true, true]), (87, [true, true, true, true, false, true]), (87, [true, true, true, true, false, true]), (87, [true, true, true, true, true, true, false, true]), (96, [true, false, true]), (97, [true, true, false, true]), (97, [true, true, false, true, false, false, true, false, false, true, true, false, true]), (97, [true, true, false, true, false, false, true, false, false, true, true, true, true]), (97, [true, true, false, true, false, false, true, false, false, true, true, true, true, false, false, true, false, false, true, true, true]), (0, [true, true, true, true, false, true]), (99, [true, true, true, false, true]), (99, [true, true, true, false, true, false, false, true, false, false, true, true, false, true]), (102, [true, true, true, false, true]), (99, [true, true, true, true, false, true]), (0, []), (103, [true, true, true, false, true]), (0, []), (0, []), (107, [true, false, true]), (0, []), (0, []), (0, []), (0, []), (0, []), (0, []), (106, [true, true, false, true]), (106, [true, true, true, true, true, true, false, true]), (106, [true, true, true, true, true, true, false, true, false, false, true, false, false, true, true]), (106, [true, true, true, true, true, true, false, true, false, false, true, false, false, true, true, false, true, true, true, true, false, true])]
  alL := [(114, 115)] }
noncomputable def T : Tbl := tabs.tbl fun _ _ => none

noncomputable def c0 (rf : T.RF) (d1 : XL) (d2 : XP) (d3 : List XU) : Option Bool := rf 0 (d1, d2, d3)
noncomputable def c1 (rf : T.RF) : Option Bool := rf 1 ()
noncomputable def c2 (rf : T.RF) (d1 : List UInt8) : Option XL := rf 2 d1
noncomputable def c3 (rf : T.RF) (d1 : List UInt8) : Option (XL × Int × Int) := rf 3 d1
noncomputable def c4 (rf : T.RF) (d1 : List UInt8) : Option (List (Int × List UInt8 × Int) × Int × Int) := rf 4 d1
noncomputable def c5 (rf : T.RF) (d1 : List UInt8) (d2 : Int) : Option ((Int × List UInt8 × Int) × Int) := rf 5 (d1, d2)
noncomputable def c6 (rf : T.RF) (d1 : Int) : Option Bool := rf 6 d1
noncomputable def c7 (rf : T.RF) (d1 : List UInt8) : Option Int := rf 7 d1
noncomputable def c8 (rf : T.RF) (d1 : Int) : Option Bool := rf 8 d1
noncomputable def c9 (rf : T.RF) (d1 : List UInt8) (d2 : Int) : Option ((Int × List UInt8 × Int) × Int) := rf 9 (d1, d2)
noncomputable def c10 (rf : T.RF) (d1 : List UInt8) : Option Bool := rf 10 d1
noncomputable def c11 (rf : T.RF) : Option (List (List UInt8)) := rf 11 ()
noncomputable def c12 (rf : T.RF) (d1 : List UInt8) : Option Bool := rf 12 d1
noncomputable def c13 (rf : T.RF) (d1 : List UInt8) : Option (List UInt8) := rf 13 d1
noncomputable def c14 (rf : T.RF) : Option (List (List UInt8)) := rf 14 ()
noncomputable def c15 (rf : T.RF) (d1 : List (Int × List UInt8 × Int)) (d2 : Int) : Option (XL × Int × Int × Int) := rf 15 (d1, d2)
noncomputable def c16 (rf : T.RF) (d1 : List (Int × List UInt8 × Int) × Int × Int × Int × Int) : Option ((List (Int × List UInt8 × Int) × Int × Int × Int × Int) × XL) := rf 16 d1
noncomputable def c17 (rf : T.RF) (d1 : List (Int × List UInt8 × Int) × Int × Int × Int × Int) : Option ((List (Int × List UInt8 × Int) × Int × Int × Int × Int) × XL) := rf 17 d1
noncomputable def c18 (rf : T.RF) (d1 : List (Int × List UInt8 × Int) × Int × Int × Int × Int) : Option ((List (Int × List UInt8 × Int) × Int × Int × Int × Int) × XL) := rf 18 d1
noncomputable def c19 (rf : T.RF) (d1 : List (Int × List UInt8 × Int) × Int × Int × Int × Int) : Option ((List (Int × List UInt8 × Int) × Int × Int × Int × Int) × XL) := rf 19 d1
noncomputable def c20 (rf : T.RF) (d1 : List (Int × List UInt8 × Int) × Int × Int × Int × Int) : Option ((List (Int × List UInt8 × Int) × Int × Int × Int × Int) × XL) := rf 20 d1
noncomputable def c21 (rf : T.RF) (d1 : List (Int × List UInt8 × Int) × Int × Int × Int × Int) : Option ((List (Int × List UInt8 × Int) × Int × Int × Int × Int) × XL) := rf 21 d1
noncomputable def c22 (rf : T.RF) (d1 : List (Int × List UInt8 × Int) × Int × Int × Int × Int) : Option ((List (Int × List UInt8 × Int) × Int × Int × Int × Int) × XL) := rf 22 d1
noncomputable def c23 (rf : T.RF) (d1 : List (Int × List UInt8 × Int) × Int × Int × Int × Int) : Option ((List (Int × List UInt8 × Int) × Int × Int × Int × Int) × XL) := rf 23 d1
noncomputable def c24 (rf : T.RF) (d1 : List (Int × List UInt8 × Int) × Int × Int × Int × Int) : Option ((List (Int × List UInt8 × Int) × Int × Int × Int × Int) × XL) := rf 24 d1
noncomputable def c25 (rf : T.RF) (d1 : List (Int × List UInt8 × Int) × Int × Int × Int × Int) (d2 : Int) : Option ((List (Int × List UInt8 × Int) × Int × Int × Int × Int) × XL) := rf 25 (d1, d2)
noncomputable def c26 (rf : T.RF) (d1 : List (Int × List UInt8 × Int)) (d2 : Int) : Option Int := rf 26 (d1, d2)
noncomputable def c27 (rf : T.RF) (d1 : List (Int × List UInt8 × Int) × Int × Int × Int × Int) (d2 : Int × List UInt8 × Int) : Option ((List (Int × List UInt8 × Int) × Int × Int × Int × Int) × XL) := rf 27 (d1, d2)
noncomputable def c28 (rf : T.RF) (d1 : Int) (d2 : Int) (d3 : List UInt8) (d4 : List XL) : Option XL := rf 28 (d1, d2, d3, d4)
noncomputable def c29 (rf : T.RF) (d1 : Int) (d2 : Int) (d3 : List UInt8) : Option XN := rf 29 (d1, d2, d3)
noncomputable def c30 (rf : T.RF) (d1 : XN) : Option (List Int) := rf 30 d1
noncomputable def c31 (rf : T.RF) (d1 : XL) (d2 : XL) : Option XL := rf 31 (d1, d2)
noncomputable def c32 (rf : T.RF) (d1 : XN) (d2 : Int) : Option XN := rf 32 (d1, d2)
noncomputable def c33 (rf : T.RF) (d1 : XN) (d2 : List Int) : Option XN := rf 33 (d1, d2)
noncomputable def c34 (rf : T.RF) (d1 : List (Int × List UInt8 × Int) × Int × Int × Int × Int) (d2 : List UInt8) : Option ((List (Int × List UInt8 × Int) × Int × Int × Int × Int) × XL) := rf 34 (d1, d2)
noncomputable def c35 (rf : T.RF) (d1 : List (Int × List UInt8 × Int) × Int × Int × Int × Int) (d2 : List UInt8) : Option ((List (Int × List UInt8 × Int) × Int × Int × Int × Int) × Bool) := rf 35 (d1, d2)
noncomputable def c36 (rf : T.RF) (d1 : List (Int × List UInt8 × Int) × Int × Int × Int × Int) (d2 : List UInt8) : Option ((List (Int × List UInt8 × Int) × Int × Int × Int × Int) × Bool) := rf 36 (d1, d2)
noncomputable def c37 (rf : T.RF) (d1 : List (Int × List UInt8 × Int) × Int × Int × Int × Int) : Option ((List (Int × List UInt8 × Int) × Int × Int × Int × Int) × List XL) := rf 37 d1
noncomputable def c38 (rf : T.RF) (d1 : List (Int × List UInt8 × Int) × Int × Int × Int × Int) (d2 : List UInt8) : Option (List (Int × List UInt8 × Int) × Int × Int × Int × Int) := rf 38 (d1, d2)
noncomputable def c39 (rf : T.RF) (d1 : List UInt8) : Option Int := rf 39 d1
noncomputable def c40 (rf : T.RF) (d1 : List (Int × List UInt8 × Int) × Int × Int × Int × Int) : Option ((List (Int × List UInt8 × Int) × Int × Int × Int × Int) × XL) := rf 40 d1
noncomputable def c41 (rf : T.RF) (d1 : List (Int × List UInt8 × Int) × Int × Int × Int × Int) : Option ((List (Int × List UInt8 × Int) × Int × Int × Int × Int) × XL) := rf 41 d1
noncomputable def c42 (rf : T.RF) (d1 : List (Int × List UInt8 × Int) × Int × Int × Int × Int) (d2 : Int) (d3 : XL) (d4 : XL) : Option ((List (Int × List UInt8 × Int) × Int × Int × Int × Int) × XL) := rf 42 (d1, d2, d3, d4)
noncomputable def c43 (rf : T.RF) (d1 : XL) : Option Int := rf 43 d1
noncomputable def c44 (rf : T.RF) (d1 : XL) (d2 : XP) (d3 : List XU) : Option (Int × Int) := rf 44 (d1, d2, d3)
noncomputable def c45 (rf : T.RF) (d1 : XL) : Option Bool := rf 45 d1
noncomputable def c46 (rf : T.RF) (d1 : XN) : Option Bool := rf 46 d1
noncomputable def c47 (rf : T.RF) (d1 : XN) : Option (List Int) := rf 47 d1
noncomputable def c48 (rf : T.RF) (d1 : XN) (d2 : List Int) : Option XN := rf 48 (d1, d2)
noncomputable def c49 (rf : T.RF) (d1 : List Bool) (d2 : Bool) : Option Bool := rf 49 (d1, d2)
noncomputable def c50 (rf : T.RF) (d1 : List Bool) (d2 : Bool) : Option Int := rf 50 (d1, d2)
noncomputable def c51 (rf : T.RF) (d1 : XL) : Option Int := rf 51 d1
noncomputable def c52 (rf : T.RF) (d1 : XL) : Option (List Int) := rf 52 d1
noncomputable def c53 (rf : T.RF) (d1 : XL) (d2 : Int) : Option XL := rf 53 (d1, d2)
noncomputable def c54 (rf : T.RF) (d1 : XL) (d2 : XL) (d3 : Int) : Option XL := rf 54 (d1, d2, d3)
noncomputable def c55 (rf : T.RF) (d1 : XP × List XU) (d2 : List Int) (d3 : XL) (d4 : XN) : Option ((XP × List XU) × List Int × Int × Int) := rf 55 (d1, d2, d3, d4)
noncomputable def c56 (rf : T.RF) (d1 : XN) (d2 : XP) : Option (XN × Int) := rf 56 (d1, d2)
noncomputable def c57 (rf : T.RF) (d1 : XN) (d2 : List UInt8 × Int) : Option (XN × Bool) := rf 57 (d1, d2)
noncomputable def c58 (rf : T.RF) (d1 : XN) (d2 : List XU) : Option (XN × Int) := rf 58 (d1, d2)
noncomputable def c59 (rf : T.RF) (d1 : XN) (d2 : XU) : Option (XN × Bool) := rf 59 (d1, d2)
noncomputable def c60 (rf : T.RF) (d1 : List Int) (d2 : XL) (d3 : XN) : Option (List Int × List Int) := rf 60 (d1, d2, d3)
noncomputable def c61 (rf : T.RF) (d1 : List Int) : Option (List Int) := rf 61 d1
noncomputable def c62 (rf : T.RF) : Option (Int × Int × Int × Int × Int × Int × Int × Int × Int × Int × Int × Int × Int × Int × Int × Int × Int × Int × Int × Int × Int × Int × Int × Int × Int × Int × Int × Int × Int × Int × Int × Int × Int × Int × Int × Int × Int × Int × Int × Int × Int × Int × Int × Int × Int × Int × Int × Int × Int × Int × Int × Int) := rf 62 ()
noncomputable def c63 (rf : T.RF) (d1 : List UInt8) : Option ((List XU × List UInt8 × List UInt8) × Int × Int) := rf 63 d1
noncomputable def c64 (rf : T.RF) (d1 : Int) (d2 : Int) (d3 : Int) (d4 : List (Int × List UInt8 × Int)) (d5 : List UInt8) : Option (Int × Int × Int × List (Int × List UInt8 × Int) × Bool) := rf 64 (d1, d2, d3, d4, d5)
noncomputable def c65 (rf : T.RF) (d1 : Int) (d2 : Int) (d3 : Int) (d4 : List (Int × List UInt8 × Int)) : Option (Int × Int × Int × List (Int × List UInt8 × Int) × Bool) := rf 65 (d1, d2, d3, d4)
noncomputable def c66 (rf : T.RF) (d1 : Int) (d2 : Int) (d3 : Int) (d4 : List (Int × List UInt8 × Int)) (d5 : Int) : Option (List (Int × List UInt8 × Int) × Int × Int × Int) := rf 66 (d1, d2, d3, d4, d5)
noncomputable def c67 (rf : T.RF) (d1 : Int) (d2 : Int) (d3 : Int) (d4 : List (Int × List UInt8 × Int)) (d5 : Int) : Option (List (Int × List UInt8 × Int) × Int × Int × Int) := rf 67 (d1, d2, d3, d4, d5)
noncomputable def c68 (rf : T.RF) (d1 : List (Int × List UInt8 × Int) × Int × Int × Int) : Option ((List (Int × List UInt8 × Int) × Int × Int × Int) × XU) := rf 68 d1
noncomputable def c69 (rf : T.RF) (d1 : List (Int × List UInt8 × Int) × Int × Int × Int) (d2 : List UInt8) : Option ((List (Int × List UInt8 × Int) × Int × Int × Int) × Bool) := rf 69 (d1, d2)
noncomputable def c70 (rf : T.RF) (d1 : List (Int × List UInt8 × Int) × Int × Int × Int) (d2 : List UInt8) : Option ((List (Int × List UInt8 × Int) × Int × Int × Int) × Bool) := rf 70 (d1, d2)
noncomputable def c71 (rf : T.RF) (d1 : List (Int × List UInt8 × Int) × Int × Int × Int) : Option ((List (Int × List UInt8 × Int) × Int × Int × Int) × Bool) := rf 71 d1
noncomputable def c72 (rf : T.RF) (d1 : List (Int × List UInt8 × Int) × Int × Int × Int) : Option ((List (Int × List UInt8 × Int) × Int × Int × Int) × List UInt8) := rf 72 d1
noncomputable def c73 (rf : T.RF) (d1 : List (Int × List UInt8 × Int) × Int × Int × Int) : Option ((List (Int × List UInt8 × Int) × Int × Int × Int) × Bool) := rf 73 d1
noncomputable def c74 (rf : T.RF) (d1 : List (Int × List UInt8 × Int) × Int × Int × Int) (d2 : Int) : Option (List (Int × List UInt8 × Int) × Int × Int × Int) := rf 74 (d1, d2)
noncomputable def c75 (rf : T.RF) (d1 : List (Int × List UInt8 × Int) × Int × Int × Int) : Option ((List (Int × List UInt8 × Int) × Int × Int × Int) × XP) := rf 75 d1
noncomputable def c76 (rf : T.RF) (d1 : List (Int × List UInt8 × Int) × Int × Int × Int) (d2 : List UInt8) : Option (List (Int × List UInt8 × Int) × Int × Int × Int) := rf 76 (d1, d2)
noncomputable def c77 (rf : T.RF) (d1 : List (Int × List UInt8 × Int) × Int × Int × Int) (d2 : Int) : Option (List (Int × List UInt8 × Int) × Int × Int × Int) := rf 77 (d1, d2)
noncomputable def c78 (rf : T.RF) (d1 : List (Int × List UInt8 × Int) × Int × Int × Int) : Option ((List (Int × List UInt8 × Int) × Int × Int × Int) × List UInt8 × Int) := rf 78 d1
noncomputable def c79 (rf : T.RF) (d1 : List (Int × List UInt8 × Int) × Int × Int × Int) : Option ((List (Int × List UInt8 × Int) × Int × Int × Int) × List XI) := rf 79 d1
noncomputable def c80 (rf : T.RF) (d1 : List (Int × List UInt8 × Int) × Int × Int × Int) : Option ((List (Int × List UInt8 × Int) × Int × Int × Int) × Bool) := rf 80 d1
noncomputable def c81 (rf : T.RF) (d1 : List (Int × List UInt8 × Int) × Int × Int × Int) : Option ((List (Int × List UInt8 × Int) × Int × Int × Int) × XI × Bool) := rf 81 d1
noncomputable def c82 (rf : T.RF) (d1 : List (Int × List UInt8 × Int) × Int × Int × Int) : Option ((List (Int × List UInt8 × Int) × Int × Int × Int) × XL) := rf 82 d1
noncomputable def c83 (rf : T.RF) (d1 : List (Int × List UInt8 × Int) × Int × Int × Int) : Option ((List (Int × List UInt8 × Int) × Int × Int × Int) × List XL) := rf 83 d1
noncomputable def c84 (rf : T.RF) (d1 : List (Int × List UInt8 × Int) × Int × Int × Int) : Option ((List (Int × List UInt8 × Int) × Int × Int × Int) × XP) := rf 84 d1
noncomputable def c85 (rf : T.RF) (d1 : List (Int × List UInt8 × Int) × Int × Int × Int) : Option ((List (Int × List UInt8 × Int) × Int × Int × Int) × List (List UInt8 × XL)) := rf 85 d1
noncomputable def c86 (rf : T.RF) (d1 : List XU × List UInt8 × List UInt8) : Option (Int × Int) := rf 86 d1
noncomputable def c87 (rf : T.RF) (d1 : XU) (d2 : List XU) : Option Int := rf 87 (d1, d2)
noncomputable def c88 (rf : T.RF) (d1 : XP) : Option XP := rf 88 d1
noncomputable def c89 (rf : T.RF) (d1 : XP) : Option XP := rf 89 d1
noncomputable def c90 (rf : T.RF) (d1 : XP) (d2 : List XU) (d3 : XI) : Option ((List XU × XP × Int) ⊕ (XP × List XU × Int)) := rf 90 (d1, d2, d3)
noncomputable def c91 (rf : T.RF) (d1 : XP) (d2 : List XU) (d3 : Int) (d4 : List XL) : Option (XP × List XU × Int) := rf 91 (d1, d2, d3, d4)
noncomputable def c92 (rf : T.RF) (d1 : List XU) (d2 : XP) (d3 : XI) : Option ((List XU × XP × Int) ⊕ (List XU × XP × Int)) := rf 92 (d1, d2, d3)
noncomputable def c93 (rf : T.RF) (d1 : List XU) (d2 : XP) (d3 : Int) (d4 : List XL) : Option (List XU × XP × Int) := rf 93 (d1, d2, d3, d4)
noncomputable def c94 (rf : T.RF) (d1 : List UInt8 × XL) (d2 : XP) : Option ((List UInt8 × XL) × Int) := rf 94 (d1, d2)
noncomputable def c95 (rf : T.RF) (d1 : List UInt8 × XL) (d2 : List UInt8 × Int) : Option ((List UInt8 × XL) × Bool) := rf 95 (d1, d2)
noncomputable def c96 (rf : T.RF) (d1 : XP × List XU) (d2 : Int) (d3 : List XL) : Option ((XP × List XU) × Int) := rf 96 (d1, d2, d3)
noncomputable def c97 (rf : T.RF) (d1 : List XU × List UInt8 × List UInt8) : Option Bool := rf 97 d1
noncomputable def c98 (rf : T.RF) (d1 : XL) (d2 : Int) : Option XL := rf 98 (d1, d2)
noncomputable def c99 (rf : T.RF) (d1 : XL) : Option Bool := rf 99 d1
noncomputable def c100 (rf : T.RF) (d1 : XN) : Option Bool := rf 100 d1
noncomputable def c101 (rf : T.RF) (d1 : XN) : Option Bool := rf 101 d1
noncomputable def c102 (rf : T.RF) (d1 : XL) (d2 : Int) : Option Bool := rf 102 (d1, d2)
noncomputable def c103 (rf : T.RF) (d1 : XL) (d2 : XL) (d3 : Int) : Option XL := rf 103 (d1, d2, d3)
noncomputable def c104 (rf : T.RF) (d1 : XL) : Option XL := rf 104 d1
noncomputable def c105 (rf : T.RF) (d1 : XL × XL × XP × List UInt8) : Option Bool := rf 105 d1
noncomputable def c106 (rf : T.RF) (d1 : XL) (d2 : List (List UInt8)) (d3 : List XL) : Option XL := rf 106 (d1, d2, d3)
noncomputable def c107 (rf : T.RF) (d1 : List (List UInt8)) (d2 : List UInt8) : Option Int := rf 107 (d1, d2)
noncomputable def c108 (rf : T.RF) (d1 : XL) (d2 : XP) (d3 : XP) : Option Bool := rf 108 (d1, d2, d3)
noncomputable def c109 (rf : T.RF) (d1 : XL) (d2 : XL) (d3 : XP) : Option Bool := rf 109 (d1, d2, d3)
noncomputable def k2 (rb : T.RB) (d1 : List UInt8) (d2 : Int) : Option Int := rb 2 (d1, d2)
noncomputable def k3 (rb : T.RB) (d1 : List UInt8) (d2 : Int) (d3 : Int) : Option Int := rb 3 (d1, d2, d3)
noncomputable def k4 (rb : T.RB) (d1 : List UInt8) (d2 : Int) : Option Int := rb 4 (d1, d2)
noncomputable def k5 (rb : T.RB) (d1 : List (List UInt8)) (d2 : List UInt8) (d3 : Int) : Option ((List (List UInt8) × Bool) ⊕ (List (List UInt8))) := rb 5 (d1, d2, d3)
noncomputable def k6 (rb : T.RB) (d1 : List UInt8) (d2 : Int) : Option (Bool ⊕ Unit) := rb 6 (d1, d2)
noncomputable def k7 (rb : T.RB) (d1 : List (List UInt8)) (d2 : List UInt8) (d3 : Int) : Option ((List (List UInt8) × List UInt8) ⊕ (List (List UInt8))) := rb 7 (d1, d2, d3)
noncomputable def k8 (rb : T.RB) (d1 : Int × Int) (d2 : List (Int × List UInt8 × Int)) (d3 : List UInt8) (d4 : Int) : Option (((Int × Int) × List (Int × List UInt8 × Int)) ⊕ ((Int × Int) × List (Int × List UInt8 × Int))) := rb 8 (d1, d2, d3, d4)
noncomputable def k9 (rb : T.RB) (d1 : List UInt8) (d2 : Int) : Option Int := rb 9 (d1, d2)
noncomputable def k13 (rb : T.RB) (d1 : XL) (d2 : XL) (d3 : Int) (d4 : Int) : Option XL := rb 13 (d1, d2, d3, d4)
noncomputable def k14 (rb : T.RB) (d1 : XL) (d2 : List Int) (d3 : Int) (d4 : List XL) (d5 : Int) (d6 : Int) : Option (XL ⊕ (XL × List Int × Int)) := rb 14 (d1, d2, d3, d4, d5, d6)
noncomputable def k16 (rb : T.RB) (d1 : List (Int × List UInt8 × Int) × Int × Int × Int × Int) (d2 : List XL) : Option (((List (Int × List UInt8 × Int) × Int × Int × Int × Int) × List XL) ⊕ (List (Int × List UInt8 × Int) × Int × Int × Int × Int)) := rb 16 (d1, d2)
noncomputable def k18 (rb : T.RB) (d1 : List (Int × List UInt8 × Int) × Int × Int × Int × Int) (d2 : XL) : Option ((List (Int × List UInt8 × Int) × Int × Int × Int × Int) × XL) := rb 18 (d1, d2)
noncomputable def k20 (rb : T.RB) (d1 : List (Int × List UInt8 × Int) × Int × Int × Int × Int) (d2 : XL) : Option ((List (Int × List UInt8 × Int) × Int × Int × Int × Int) × XL) := rb 20 (d1, d2)
noncomputable def k22 (rb : T.RB) (d1 : List (Int × List UInt8 × Int) × Int × Int × Int × Int) (d2 : XL) : Option ((List (Int × List UInt8 × Int) × Int × Int × Int × Int) × XL) := rb 22 (d1, d2)
noncomputable def k24 (rb : T.RB) (d1 : List (Int × List UInt8 × Int) × Int × Int × Int × Int) (d2 : XL) : Option ((List (Int × List UInt8 × Int) × Int × Int × Int × Int) × XL) := rb 24 (d1, d2)
noncomputable def k26 (rb : T.RB) (d1 : List (Int × List UInt8 × Int) × Int × Int × Int × Int) (d2 : XL) : Option ((List (Int × List UInt8 × Int) × Int × Int × Int × Int) × XL) := rb 26 (d1, d2)
noncomputable def k34 (rb : T.RB) (d1 : List Int) (d2 : XL) (d3 : Int) : Option (List Int) := rb 34 (d1, d2, d3)
noncomputable def k35 (rb : T.RB) (d1 : List Int) (d2 : List Int) (d3 : Int) (d4 : Int) : Option (List Int × List Int) := rb 35 (d1, d2, d3, d4)
noncomputable def k37 (rb : T.RB) (d1 : Int × Int) (d2 : List (Int × List UInt8 × Int)) (d3 : Int) : Option (((Int × Int) × XL × Int) ⊕ ((Int × Int) × XL × Int)) := rb 37 (d1, d2, d3)
noncomputable def k38 (rb : T.RB) (d1 : List Bool) (d2 : XL) (d3 : XL) (d4 : Int) (d5 : Int) : Option ((List Bool × Bool) ⊕ (List Bool)) := rb 38 (d1, d2, d3, d4, d5)
noncomputable def k39 (rb : T.RB) (d1 : XN) (d2 : Int) : Option (XN × Bool) := rb 39 (d1, d2)
noncomputable def k40 (rb : T.RB) (d1 : XN) (d2 : XN) (d3 : Int) : Option (XN × XN × Bool) := rb 40 (d1, d2, d3)
noncomputable def k41 (rb : T.RB) (d1 : List Bool) (d2 : XN) (d3 : List Int) (d4 : XL) (d5 : Int) (d6 : Int) (d7 : Int) : Option ((List Bool × XN × List Int × Bool) ⊕ (List Bool × XN × List Int)) := rb 41 (d1, d2, d3, d4, d5, d6, d7)
noncomputable def k42 (rb : T.RB) (d1 : List Bool) (d2 : Bool) (d3 : Int) (d4 : Int) : Option (Int ⊕ Unit) := rb 42 (d1, d2, d3, d4)
noncomputable def k49 (rb : T.RB) (d1 : List Int) (d2 : XL) (d3 : Int) (d4 : Int) : Option (List Int) := rb 49 (d1, d2, d3, d4)
noncomputable def k50 (rb : T.RB) (d1 : List Int) (d2 : List Int) (d3 : Int) (d4 : Int) (d5 : Int) : Option (List Int × List Int) := rb 50 (d1, d2, d3, d4, d5)
noncomputable def k52 (rb : T.RB) (d1 : XL) (d2 : List Int) (d3 : XL) (d4 : Int) (d5 : Int) : Option (List Int × XL) := rb 52 (d1, d2, d3, d4, d5)
noncomputable def k54 (rb : T.RB) (d1 : XN) (d2 : XP) (d3 : Int) (d4 : Int) : Option ((XN × Int) ⊕ XN) := rb 54 (d1, d2, d3, d4)
noncomputable def k55 (rb : T.RB) (d1 : XN) (d2 : List XU) (d3 : Int) (d4 : Int) : Option ((XN × Int) ⊕ XN) := rb 55 (d1, d2, d3, d4)
noncomputable def k57 (rb : T.RB) (d1 : List Int) (d2 : List Int) (d3 : XL) (d4 : Int) : Option (List Int × List Int) := rb 57 (d1, d2, d3, d4)
noncomputable def k61 (rb : T.RB) (d1 : List Int) (d2 : Int) (d3 : Int) : Option (List Int) := rb 61 (d1, d2, d3)
noncomputable def k62 (rb : T.RB) (d1 : List Int) (d2 : XP) (d3 : Int) (d4 : Int) : Option ((List Int × Int × Int) ⊕ (List Int)) := rb 62 (d1, d2, d3, d4)
noncomputable def k63 (rb : T.RB) (d1 : List Int) (d2 : XN) (d3 : Int × Int) (d4 : Int) : Option (List Int × XN × (Int × Int) × Int × Int) := rb 63 (d1, d2, d3, d4)
noncomputable def k64 (rb : T.RB) (d1 : List Int) (d2 : Int × Int) (d3 : List Int) (d4 : Int) (d5 : Int) (d6 : Int) : Option ((List Int × (Int × Int) × List Int × Int × Int) ⊕ (List Int × (Int × Int) × List Int × Int)) := rb 64 (d1, d2, d3, d4, d5, d6)
noncomputable def k66 (rb : T.RB) (d1 : XP × List XU) (d2 : List Int) (d3 : XL) (d4 : XL) (d5 : Int) (d6 : Int) : Option (((XP × List XU) × Int × Int) ⊕ ((XP × List XU) × List Int)) := rb 66 (d1, d2, d3, d4, d5, d6)
noncomputable def k70 (rb : T.RB) (d1 : List (Int × List UInt8 × Int) × Int × Int × Int) (d2 : XP) : Option (((List (Int × List UInt8 × Int) × Int × Int × Int) × XP) ⊕ (List (Int × List UInt8 × Int) × Int × Int × Int)) := rb 70 (d1, d2)
noncomputable def k72 (rb : T.RB) (d1 : List (Int × List UInt8 × Int) × Int × Int × Int) (d2 : Int × Int) (d3 : XL) (d4 : Int) : Option ((List (Int × List UInt8 × Int) × Int × Int × Int) × (Int × Int) × XL) := rb 72 (d1, d2, d3, d4)
noncomputable def k74 (rb : T.RB) (d1 : List (Int × List UInt8 × Int) × Int × Int × Int) (d2 : List XL) : Option (((List (Int × List UInt8 × Int) × Int × Int × Int) × List XL) ⊕ (List (Int × List UInt8 × Int) × Int × Int × Int)) := rb 74 (d1, d2)
noncomputable def k75 (rb : T.RB) (d1 : List (Int × List UInt8 × Int) × Int × Int × Int) (d2 : List XI) : Option ((List (Int × List UInt8 × Int) × Int × Int × Int) × List XI) := rb 75 (d1, d2)
noncomputable def k77 (rb : T.RB) (d1 : List (Int × List UInt8 × Int) × Int × Int × Int) (d2 : XP) : Option (((List (Int × List UInt8 × Int) × Int × Int × Int) × XP) ⊕ (List (Int × List UInt8 × Int) × Int × Int × Int)) := rb 77 (d1, d2)
noncomputable def k79 (rb : T.RB) (d1 : List (Int × List UInt8 × Int) × Int × Int × Int) (d2 : List (List UInt8 × XL)) : Option ((List (Int × List UInt8 × Int) × Int × Int × Int) × List (List UInt8 × XL)) := rb 79 (d1, d2)
noncomputable def k94 (rb : T.RB) (d1 : List (Int × List UInt8 × Int) × Int × Int × Int) (d2 : List UInt8) (d3 : List UInt8) (d4 : List XU) : Option ((List (Int × List UInt8 × Int) × Int × Int × Int) × List UInt8 × List UInt8 × List XU) := rb 94 (d1, d2, d3, d4)
noncomputable def k95 (rb : T.RB) (d1 : List UInt8) (d2 : List UInt8) (d3 : Int × Int) (d4 : List (Int × List UInt8 × Int) × Int × Int × Int) (d5 : List UInt8) (d6 : List UInt8) (d7 : List XU) (d8 : List XU) : Option ((List UInt8 × List UInt8 × (Int × Int) × (List (Int × List UInt8 × Int) × Int × Int × Int) × List UInt8 × List UInt8 × List XU × List XU × List XU) ⊕ (List UInt8 × List UInt8 × (Int × Int) × (List (Int × List UInt8 × Int) × Int × Int × Int) × List UInt8 × List UInt8 × List XU × List XU)) := rb 95 (d1, d2, d3, d4, d5, d6, d7, d8)
noncomputable def k96 (rb : T.RB) (d1 : List XU × List UInt8 × List UInt8) (d2 : Int × Int) (d3 : List XU) (d4 : Int) (d5 : Int) : Option (((List XU × List UInt8 × List UInt8) × Int × Int) ⊕ ((List XU × List UInt8 × List UInt8) × Int × Int)) := rb 96 (d1, d2, d3, d4, d5)
noncomputable def k99 (rb : T.RB) (d1 : XP) (d2 : List XU) (d3 : Int) (d4 : List XL) (d5 : Int) (d6 : Int) : Option ((XP × List XU × Int) ⊕ (XP × List XU)) := rb 99 (d1, d2, d3, d4, d5, d6)
noncomputable def k100 (rb : T.RB) (d1 : Int) : Option Int := rb 100 d1
noncomputable def k105 (rb : T.RB) (d1 : List XU) (d2 : XP) (d3 : Int) (d4 : List XL) (d5 : Int) (d6 : Int) : Option ((List XU × XP × Int) ⊕ (List XU × XP)) := rb 105 (d1, d2, d3, d4, d5, d6)
noncomputable def k106 (rb : T.RB) (d1 : Int) (d2 : Int) (d3 : Int) : Option (Int ⊕ Unit) := rb 106 (d1, d2, d3)
noncomputable def k107 (rb : T.RB) (d1 : Int) : Option Int := rb 107 d1
noncomputable def k112 (rb : T.RB) (d1 : List UInt8 × XL) (d2 : XP) (d3 : Int) (d4 : Int) : Option (((List UInt8 × XL) × Int) ⊕ (List UInt8 × XL)) := rb 112 (d1, d2, d3, d4)
noncomputable def k113 (rb : T.RB) (d1 : XU) (d2 : XP) (d3 : List XU) : Option (XU × Int) := rb 113 (d1, d2, d3)
noncomputable def k114 (rb : T.RB) (d1 : XP) (d2 : List XU) (d3 : List XI) (d4 : Int) (d5 : Int) : Option ((List XU × XP × Int) ⊕ (List XU × XP) ⊕ (XP × List XU × Int) ⊕ (XP × List XU)) := rb 114 (d1, d2, d3, d4, d5)
noncomputable def k115 (rb : T.RB) (d1 : List XU) (d2 : XP) (d3 : List XI) (d4 : Int) (d5 : Int) : Option ((List XU × XP × Int) ⊕ (List XU × XP)) := rb 115 (d1, d2, d3, d4, d5)
noncomputable def k116 (rb : T.RB) (d1 : XP × List XU) (d2 : XP) (d3 : List (List UInt8 × XL)) (d4 : Int) (d5 : Int) : Option (((XP × List XU) × Int) ⊕ (XP × List XU)) := rb 116 (d1, d2, d3, d4, d5)
noncomputable def k117 (rb : T.RB) (d1 : XP × List XU) (d2 : Int) (d3 : List XL) (d4 : Int) (d5 : Int) : Option (((XP × List XU) × Int) ⊕ (XP × List XU)) := rb 117 (d1, d2, d3, d4, d5)
noncomputable def k118 (rb : T.RB) (d1 : List XU × List UInt8 × List UInt8) (d2 : Int) : Option (((List XU × List UInt8 × List UInt8) × Bool) ⊕ (List XU × List UInt8 × List UInt8)) := rb 118 (d1, d2)
noncomputable def k119 (rb : T.RB) (d1 : XU) (d2 : Int) : Option ((XU × Bool) ⊕ XU) := rb 119 (d1, d2)
noncomputable def k120 (rb : T.RB) (d1 : XU) (d2 : Int) : Option ((XU × Bool) ⊕ XU) := rb 120 (d1, d2)
noncomputable def k121 (rb : T.RB) (d1 : XI) (d2 : Int) : Option ((XI × Bool) ⊕ XI) := rb 121 (d1, d2)
noncomputable def k122 (rb : T.RB) (d1 : XL) (d2 : XP) (d3 : List XU) (d4 : Int) : Option (Bool ⊕ Unit) := rb 122 (d1, d2, d3, d4)
noncomputable def k123 (rb : T.RB) (d1 : List Int) (d2 : XL) (d3 : Int) : Option ((List Int × Bool) ⊕ (List Int)) := rb 123 (d1, d2, d3)
noncomputable def k124 (rb : T.RB) (d1 : List Int) (d2 : List Int) (d3 : Int) (d4 : Int) : Option ((List Int × List Int × Bool) ⊕ (List Int × List Int)) := rb 124 (d1, d2, d3, d4)
noncomputable def k125 (rb : T.RB) (d1 : XN) (d2 : List Int) (d3 : XL) (d4 : Int) : Option ((XN × List Int × Bool) ⊕ (XN × List Int)) := rb 125 (d1, d2, d3, d4)
noncomputable def k126 (rb : T.RB) (d1 : List Int) (d2 : XL) (d3 : Int) : Option ((List Int × Bool) ⊕ (List Int)) := rb 126 (d1, d2, d3)
noncomputable def k128 (rb : T.RB) (d1 : XL) (d2 : List Int) (d3 : List Int) (d4 : XL) (d5 : Int) : Option (List Int × XL × List Int) := rb 128 (d1, d2, d3, d4, d5)
noncomputable def k131 (rb : T.RB) (d1 : List (List UInt8)) (d2 : List UInt8) (d3 : Int) : Option (Int ⊕ Unit) := rb 131 (d1, d2, d3)
noncomputable def k138 (rb : T.RB) (d1 : List XL) (d2 : Int) : Option (XL ⊕ Unit) := rb 138 (d1, d2)
noncomputable def k139 (rb : T.RB) (d1 : XL) (d2 : XL) (d3 : List Int) (d4 : List (List UInt8)) (d5 : List XL) (d6 : Int) : Option (XL × List Int × XL) := rb 139 (d1, d2, d3, d4, d5, d6)
noncomputable def k140 (rb : T.RB) (d1 : XL) (d2 : XL) (d3 : List Int) (d4 : List XL) (d5 : Int) (d6 : Int) : Option (XL × List Int × XL) := rb 140 (d1, d2, d3, d4, d5, d6)
noncomputable def k141 (rb : T.RB) (d1 : List Int) (d2 : List Int) (d3 : List Int) (d4 : Int) : Option (List Int × List Int × List Int) := rb 141 (d1, d2, d3, d4)

/- bailmentref02.digit -/
noncomputable def r6 (rf : T.RF) (rb : T.RB) (d1 : Int) : Option Bool :=
  bif decide (d1 ≥ 48) then
    some (decide (d1 ≤ 57))
  else
    some false
theorem er6 (rf : T.RF) (rb : T.RB) (d1 : Int) : T.stepF rf rb 6 d1 = r6 rf rb d1 := by kernel_rfl
theorem or6 {d1 : Int} {y : Bool} (h : r6 T.rf T.rb d1 = some y) : c6 T.rf d1 = some y := T.rf_of (f := 6) (d := d1) ((er6 T.rf T.rb d1).trans h)

/- bailmentref02.Value loop 0 -/
noncomputable def b3 (rf : T.RF) (rb : T.RB) (d1 : List UInt8) (d2 : Int) (d3 : Int) : Option Int :=
  bif decide (d3 < (((d1.length : Nat) : Int))) then
    bif decide (d2 ≤ 2147483647) then
      bif inb d3 d1.length then
        (nth d1 d3.toNat).bind fun (b1 : UInt8) =>
        k3 rb d1 (IntKind.i64.wrap ((IntKind.i64.wrap (10 * d2)) + (IntKind.i64.wrap (IntKind.u8.wrap ((((b1.toNat : Nat) : Int)) - 48))))) (IntKind.i64.wrap (d3 + 1))
      else
        none
    else
      some d2
  else
    some d2
theorem eb3 (rf : T.RF) (rb : T.RB) (d1 : List UInt8) (d2 : Int) (d3 : Int) : T.stepB rf rb 3 (d1, d2, d3) = b3 rf rb d1 d2 d3 := by kernel_rfl
theorem ob3 {d1 : List UInt8} {d2 : Int} {d3 : Int} {y : Int} (h : b3 T.rf T.rb d1 d2 d3 = some y) : k3 T.rb d1 d2 d3 = some y := T.rb_of (κ := 3) (d := (d1, d2, d3)) ((eb3 T.rf T.rb d1 d2 d3).trans h)

/- bailmentref02.Value -/
noncomputable def r7 (rf : T.RF) (rb : T.RB) (d1 : List UInt8) : Option Int :=
  (k3 rb d1 0 0).bind fun (z1 : Int) =>
  some z1
theorem er7 (rf : T.RF) (rb : T.RB) (d1 : List UInt8) : T.stepF rf rb 7 d1 = r7 rf rb d1 := by kernel_rfl
theorem or7 {d1 : List UInt8} {y : Int} (h : r7 T.rf T.rb d1 = some y) : c7 T.rf d1 = some y := T.rf_of (f := 7) (d := d1) ((er7 T.rf T.rb d1).trans h)

/- bailmentref02.letter -/
noncomputable def r8 (rf : T.RF) (rb : T.RB) (d1 : Int) : Option Bool :=
  bif decide (d1 ≥ 97) then
    bif decide (d1 ≤ 122) then
      some true
    else
      some (d1 == 95)
  else
    some (d1 == 95)
theorem er8 (rf : T.RF) (rb : T.RB) (d1 : Int) : T.stepF rf rb 8 d1 = r8 rf rb d1 := by kernel_rfl
theorem or8 {d1 : Int} {y : Bool} (h : r8 T.rf T.rb d1 = some y) : c8 T.rf d1 = some y := T.rf_of (f := 8) (d := d1) ((er8 T.rf T.rb d1).trans h)

/- bailmentref02.Words -/
noncomputable def r11 (rf : T.RF) (rb : T.RB) : Option (List (List UInt8)) :=
  some [([97, 110, 100] : List UInt8), ([97, 115, 115, 117, 109, 101] : List UInt8), ([98, 111, 111, 108] : List UInt8), ([99, 111, 110, 116, 114, 97, 99, 116] : List UInt8), ([100, 105, 118] : List UInt8), ([101, 108, 115, 101] : List UInt8), ([101, 110, 100] : List UInt8), ([101, 110, 115, 117, 114, 101] : List UInt8), ([102, 97, 108, 108, 98, 97, 99, 107] : List UInt8), ([102, 97, 108, 115, 101] : List UInt8), ([103, 104, 111, 115, 116] : List UInt8), ([103, 117, 97, 114, 97, 110, 116, 101, 101] : List UInt8), ([104, 105, 115, 116] : List UInt8), ([105, 102] : List UInt8), ([105, 109, 112, 111, 114, 116] : List UInt8), ([105, 110, 116] : List UInt8), ([108, 101, 116] : List UInt8), ([109, 97, 105, 110] : List UInt8), ([109, 111, 100] : List UInt8), ([109, 111, 100, 101] : List UInt8), ([110, 111, 100, 101] : List UInt8), ([110, 111, 116] : List UInt8), ([111, 110, 99, 101] : List UInt8), ([111, 114] : List UInt8), ([112, 114, 101] : List UInt8), ([112, 114, 101, 118] : List UInt8), ([114, 101, 113, 117, 105, 114, 101] : List UInt8), ([114, 101, 116, 117, 114, 110, 115] : List UInt8), ([115, 105, 110, 99, 101] : List UInt8), ([116, 101, 108] : List UInt8), ([116, 104, 101, 110] : List UInt8), ([116, 114, 117, 101] : List UInt8), ([118, 97, 114] : List UInt8), ([119, 105, 116, 104, 105, 110] : List UInt8), ([120, 111, 114] : List UInt8)]
theorem er11 (rf : T.RF) (rb : T.RB) : T.stepF rf rb 11 () = r11 rf rb := by kernel_rfl
theorem or11 {y : (List (List UInt8))} (h : r11 T.rf T.rb = some y) : c11 T.rf = some y := T.rf_of (f := 11) (d := ()) ((er11 T.rf T.rb).trans h)

/- bailmentref02.IsWord loop 0 -/
noncomputable def b5 (rf : T.RF) (rb : T.RB) (d1 : List (List UInt8)) (d2 : List UInt8) (d3 : Int) : Option ((List (List UInt8) × Bool) ⊕ (List (List UInt8))) :=
  bif decide (d3 < (((d1.length : Nat) : Int))) then
    bif inb d3 d1.length then
      (nth d1 d3.toNat).bind fun (x1 : List UInt8) =>
      bif x1 == d2 then
        some (.inl (d1, true))
      else
        k5 rb d1 d2 (IntKind.i64.wrap (d3 + 1))
    else
      none
  else
    some (.inr d1)
theorem eb5 (rf : T.RF) (rb : T.RB) (d1 : List (List UInt8)) (d2 : List UInt8) (d3 : Int) : T.stepB rf rb 5 (d1, d2, d3) = b5 rf rb d1 d2 d3 := by kernel_rfl
theorem ob5 {d1 : List (List UInt8)} {d2 : List UInt8} {d3 : Int} {y : ((List (List UInt8) × Bool) ⊕ (List (List UInt8)))} (h : b5 T.rf T.rb d1 d2 d3 = some y) : k5 T.rb d1 d2 d3 = some y := T.rb_of (κ := 5) (d := (d1, d2, d3)) ((eb5 T.rf T.rb d1 d2 d3).trans h)

/- bailmentref02.IsWord -/
noncomputable def r10 (rf : T.RF) (rb : T.RB) (d1 : List UInt8) : Option Bool :=
  (c11 rf).bind fun (y1 : List (List UInt8)) =>
  (k5 rb y1 d1 0).bind fun (z2 : (List (List UInt8) × Bool) ⊕ (List (List UInt8))) =>
  match z2 with
  | .inl u3 =>
    some u3.2
  | .inr w4 =>
    some false
theorem er10 (rf : T.RF) (rb : T.RB) (d1 : List UInt8) : T.stepF rf rb 10 d1 = r10 rf rb d1 := by kernel_rfl
theorem or10 {d1 : List UInt8} {y : Bool} (h : r10 T.rf T.rb d1 = some y) : c10 T.rf d1 = some y := T.rf_of (f := 10) (d := d1) ((er10 T.rf T.rb d1).trans h)

/- bailmentref02.IsName loop 0 -/
noncomputable def b6 (rf : T.RF) (rb : T.RB) (d1 : List UInt8) (d2 : Int) : Option (Bool ⊕ Unit) :=
  bif decide (d2 < (((d1.length : Nat) : Int))) then
    bif inb d2 d1.length then
      (nth d1 d2.toNat).bind fun (b1 : UInt8) =>
      (c8 rf (((b1.toNat : Nat) : Int))).bind fun (y2 : Bool) =>
      bif !y2 then
        bif inb d2 d1.length then
          (nth d1 d2.toNat).bind fun (b3 : UInt8) =>
          (c6 rf (((b3.toNat : Nat) : Int))).bind fun (y4 : Bool) =>
          bif !y4 then
            some (.inl false)
          else
            k6 rb d1 (IntKind.i64.wrap (d2 + 1))
        else
          none
      else
        k6 rb d1 (IntKind.i64.wrap (d2 + 1))
    else
      none
  else
    some (.inr ())
theorem eb6 (rf : T.RF) (rb : T.RB) (d1 : List UInt8) (d2 : Int) : T.stepB rf rb 6 (d1, d2) = b6 rf rb d1 d2 := by kernel_rfl
theorem ob6 {d1 : List UInt8} {d2 : Int} {y : (Bool ⊕ Unit)} (h : b6 T.rf T.rb d1 d2 = some y) : k6 T.rb d1 d2 = some y := T.rb_of (κ := 6) (d := (d1, d2)) ((eb6 T.rf T.rb d1 d2).trans h)

/- bailmentref02.IsName -/
noncomputable def r12 (rf : T.RF) (rb : T.RB) (d1 : List UInt8) : Option Bool :=
  bif d1 == ([] : List UInt8) then
    some false
  else
  bif decide ((((d1.length : Nat) : Int)) > 40) then
    some false
  else
  bif inb 0 d1.length then
    (nth d1 0).bind fun (b1 : UInt8) =>
    (c8 rf (((b1.toNat : Nat) : Int))).bind fun (y2 : Bool) =>
    bif !y2 then
      some false
    else
      (c10 rf d1).bind fun (y3 : Bool) =>
      bif y3 then
        some false
      else
        (k6 rb d1 0).bind fun (z4 : Bool ⊕ Unit) =>
        match z4 with
        | .inl u5 =>
          some u5
        | .inr w6 =>
          some true
  else
    none
theorem er12 (rf : T.RF) (rb : T.RB) (d1 : List UInt8) : T.stepF rf rb 12 d1 = r12 rf rb d1 := by kernel_rfl
theorem or12 {d1 : List UInt8} {y : Bool} (h : r12 T.rf T.rb d1 = some y) : c12 T.rf d1 = some y := T.rf_of (f := 12) (d := d1) ((er12 T.rf T.rb d1).trans h)

/- bailmentref02.word -/
noncomputable def r9 (rf : T.RF) (rb : T.RB) (d1 : List UInt8) (d2 : Int) : Option ((Int × List UInt8 × Int) × Int) :=
  (c10 rf d1).bind fun (y1 : Bool) =>
  bif y1 then
    some ((3, d1, d2), 0)
  else
    (c12 rf d1).bind fun (y2 : Bool) =>
    bif !y2 then
      some ((0, ([] : List UInt8), 0), 5)
    else
      some ((1, d1, d2), 0)
theorem er9 (rf : T.RF) (rb : T.RB) (d1 : List UInt8) (d2 : Int) : T.stepF rf rb 9 (d1, d2) = r9 rf rb d1 d2 := by kernel_rfl
theorem or9 {d1 : List UInt8} {d2 : Int} {y : ((Int × List UInt8 × Int) × Int)} (h : r9 T.rf T.rb d1 d2 = some y) : c9 T.rf d1 d2 = some y := T.rf_of (f := 9) (d := (d1, d2)) ((er9 T.rf T.rb d1 d2).trans h)

/- bailmentref02.Signs -/
noncomputable def r14 (rf : T.RF) (rb : T.RB) : Option (List (List UInt8)) :=
  some [([45, 62] : List UInt8), ([61, 62] : List UInt8), ([60, 61] : List UInt8), ([62, 61] : List UInt8), ([60, 62] : List UInt8), ([61] : List UInt8), ([60] : List UInt8), ([62] : List UInt8), ([43] : List UInt8), ([45] : List UInt8), ([42] : List UInt8), ([40] : List UInt8), ([41] : List UInt8), ([44] : List UInt8), ([59] : List UInt8), ([58] : List UInt8)]
theorem er14 (rf : T.RF) (rb : T.RB) : T.stepF rf rb 14 () = r14 rf rb := by kernel_rfl
theorem or14 {y : (List (List UInt8))} (h : r14 T.rf T.rb = some y) : c14 T.rf = some y := T.rf_of (f := 14) (d := ()) ((er14 T.rf T.rb).trans h)

/- bailmentref02.sign loop 0 -/
noncomputable def b7 (rf : T.RF) (rb : T.RB) (d1 : List (List UInt8)) (d2 : List UInt8) (d3 : Int) : Option ((List (List UInt8) × List UInt8) ⊕ (List (List UInt8))) :=
  bif decide (d3 < (((d1.length : Nat) : Int))) then
    bif inb d3 d1.length then
      (nth d1 d3.toNat).bind fun (x1 : List UInt8) =>
      bif decide ((((d2.length : Nat) : Int)) ≥ (((x1.length : Nat) : Int))) then
        bif inb d3 d1.length then
          (nth d1 d3.toNat).bind fun (x2 : List UInt8) =>
          bif inb' (((x2.length : Nat) : Int)) d2.length then
            bif inb d3 d1.length then
              (nth d1 d3.toNat).bind fun (x3 : List UInt8) =>
              bif (sub d2 (some (0, (x2.length - 0)))) == x3 then
                bif inb d3 d1.length then
                  (nth d1 d3.toNat).bind fun (x4 : List UInt8) =>
                  some (.inl (d1, x4))
                else
                  none
              else
                k7 rb d1 d2 (IntKind.i64.wrap (d3 + 1))
            else
              none
          else
            none
        else
          none
      else
        k7 rb d1 d2 (IntKind.i64.wrap (d3 + 1))
    else
      none
  else
    some (.inr d1)
theorem eb7 (rf : T.RF) (rb : T.RB) (d1 : List (List UInt8)) (d2 : List UInt8) (d3 : Int) : T.stepB rf rb 7 (d1, d2, d3) = b7 rf rb d1 d2 d3 := by kernel_rfl
theorem ob7 {d1 : List (List UInt8)} {d2 : List UInt8} {d3 : Int} {y : ((List (List UInt8) × List UInt8) ⊕ (List (List UInt8)))} (h : b7 T.rf T.rb d1 d2 d3 = some y) : k7 T.rb d1 d2 d3 = some y := T.rb_of (κ := 7) (d := (d1, d2, d3)) ((eb7 T.rf T.rb d1 d2 d3).trans h)

/- bailmentref02.sign -/
noncomputable def r13 (rf : T.RF) (rb : T.RB) (d1 : List UInt8) : Option (List UInt8) :=
  (c14 rf).bind fun (y1 : List (List UInt8)) =>
  (k7 rb y1 d1 0).bind fun (z2 : (List (List UInt8) × List UInt8) ⊕ (List (List UInt8))) =>
  match z2 with
  | .inl u3 =>
    some u3.2
  | .inr w4 =>
    some ([] : List UInt8)
theorem er13 (rf : T.RF) (rb : T.RB) (d1 : List UInt8) : T.stepF rf rb 13 d1 = r13 rf rb d1 := by kernel_rfl
theorem or13 {d1 : List UInt8} {y : (List UInt8)} (h : r13 T.rf T.rb d1 = some y) : c13 T.rf d1 = some y := T.rf_of (f := 13) (d := d1) ((er13 T.rf T.rb d1).trans h)

/- bailmentref02.one loop 0 -/
noncomputable def b2 (rf : T.RF) (rb : T.RB) (d1 : List UInt8) (d2 : Int) : Option Int :=
  bif decide (d2 < (((d1.length : Nat) : Int))) then
    bif inb d2 d1.length then
      (nth d1 d2.toNat).bind fun (b1 : UInt8) =>
      (c6 rf (((b1.toNat : Nat) : Int))).bind fun (y2 : Bool) =>
      bif y2 then
        k2 rb d1 (IntKind.i64.wrap (d2 + 1))
      else
        some d2
    else
      none
  else
    some d2
theorem eb2 (rf : T.RF) (rb : T.RB) (d1 : List UInt8) (d2 : Int) : T.stepB rf rb 2 (d1, d2) = b2 rf rb d1 d2 := by kernel_rfl
theorem ob2 {d1 : List UInt8} {d2 : Int} {y : Int} (h : b2 T.rf T.rb d1 d2 = some y) : k2 T.rb d1 d2 = some y := T.rb_of (κ := 2) (d := (d1, d2)) ((eb2 T.rf T.rb d1 d2).trans h)

/- bailmentref02.one loop 2 -/
noncomputable def b4 (rf : T.RF) (rb : T.RB) (d1 : List UInt8) (d2 : Int) : Option Int :=
  bif decide (d2 < (((d1.length : Nat) : Int))) then
    bif inb d2 d1.length then
      (nth d1 d2.toNat).bind fun (b1 : UInt8) =>
      (c8 rf (((b1.toNat : Nat) : Int))).bind fun (y2 : Bool) =>
      bif y2 then
        k4 rb d1 (IntKind.i64.wrap (d2 + 1))
      else
      bif inb d2 d1.length then
        (nth d1 d2.toNat).bind fun (b3 : UInt8) =>
        (c6 rf (((b3.toNat : Nat) : Int))).bind fun (y4 : Bool) =>
        bif y4 then
          k4 rb d1 (IntKind.i64.wrap (d2 + 1))
        else
          some d2
      else
        none
    else
      none
  else
    some d2
theorem eb4 (rf : T.RF) (rb : T.RB) (d1 : List UInt8) (d2 : Int) : T.stepB rf rb 4 (d1, d2) = b4 rf rb d1 d2 := by kernel_rfl
theorem ob4 {d1 : List UInt8} {d2 : Int} {y : Int} (h : b4 T.rf T.rb d1 d2 = some y) : k4 T.rb d1 d2 = some y := T.rb_of (κ := 4) (d := (d1, d2)) ((eb4 T.rf T.rb d1 d2).trans h)

/- bailmentref02.one -/
noncomputable def r5 (rf : T.RF) (rb : T.RB) (d1 : List UInt8) (d2 : Int) : Option ((Int × List UInt8 × Int) × Int) :=
  bif inb 0 d1.length then
    (nth d1 0).bind fun (b1 : UInt8) =>
    (c6 rf (((b1.toNat : Nat) : Int))).bind fun (y2 : Bool) =>
    bif y2 then
      (k2 rb d1 0).bind fun (z3 : Int) =>
      bif decide (z3 > 1) then
        bif inb 0 d1.length then
          (nth d1 0).bind fun (b4 : UInt8) =>
          bif (((b4.toNat : Nat) : Int)) == 48 then
            some ((0, ([] : List UInt8), 0), 2)
          else
          bif inb' z3 d1.length then
            (c7 rf (sub d1 (some (0, (z3.toNat - 0))))).bind fun (y5 : Int) =>
            bif decide (y5 > 2147483647) then
              some ((0, ([] : List UInt8), 0), 2)
            else
            bif inb' z3 d1.length then
              some ((2, sub d1 (some (0, (z3.toNat - 0))), d2), 0)
            else
              none
          else
            none
        else
          none
      else
      bif inb' z3 d1.length then
        (c7 rf (sub d1 (some (0, (z3.toNat - 0))))).bind fun (y6 : Int) =>
        bif decide (y6 > 2147483647) then
          some ((0, ([] : List UInt8), 0), 2)
        else
        bif inb' z3 d1.length then
          some ((2, sub d1 (some (0, (z3.toNat - 0))), d2), 0)
        else
          none
      else
        none
    else
    bif inb 0 d1.length then
      (nth d1 0).bind fun (b7 : UInt8) =>
      (c8 rf (((b7.toNat : Nat) : Int))).bind fun (y8 : Bool) =>
      bif y8 then
        (k4 rb d1 0).bind fun (z9 : Int) =>
        bif inb' z9 d1.length then
          (c9 rf (sub d1 (some (0, (z9.toNat - 0)))) d2).bind fun (y10 : (Int × List UInt8 × Int) × Int) =>
          some y10
        else
          none
      else
        (c13 rf d1).bind fun (y11 : List UInt8) =>
        bif y11 == ([] : List UInt8) then
          some ((0, ([] : List UInt8), 0), 5)
        else
          some ((4, y11, d2), 0)
    else
      none
  else
    none
theorem er5 (rf : T.RF) (rb : T.RB) (d1 : List UInt8) (d2 : Int) : T.stepF rf rb 5 (d1, d2) = r5 rf rb d1 d2 := by kernel_rfl
theorem or5 {d1 : List UInt8} {d2 : Int} {y : ((Int × List UInt8 × Int) × Int)} (h : r5 T.rf T.rb d1 d2 = some y) : c5 T.rf d1 d2 = some y := T.rf_of (f := 5) (d := (d1, d2)) ((er5 T.rf T.rb d1 d2).trans h)

/- bailmentref02.Lex loop 0 -/
noncomputable def b8 (rf : T.RF) (rb : T.RB) (d1 : Int × Int) (d2 : List (Int × List UInt8 × Int)) (d3 : List UInt8) (d4 : Int) : Option (((Int × Int) × List (Int × List UInt8 × Int)) ⊕ ((Int × Int) × List (Int × List UInt8 × Int))) :=
  bif decide (d4 < (((d3.length : Nat) : Int))) then
    bif inb d4 d3.length then
      (nth d3 d4.toNat).bind fun (b1 : UInt8) =>
      bif (((b1.toNat : Nat) : Int)) == 32 then
        k8 rb d1 d2 d3 (IntKind.i64.wrap (d4 + 1))
      else
      bif inb d4 d3.length then
        (nth d3 d4.toNat).bind fun (b2 : UInt8) =>
        bif (((b2.toNat : Nat) : Int)) == 9 then
          k8 rb d1 d2 d3 (IntKind.i64.wrap (d4 + 1))
        else
        bif inb d4 d3.length then
          (nth d3 d4.toNat).bind fun (b3 : UInt8) =>
          bif (((b3.toNat : Nat) : Int)) == 10 then
            k8 rb d1 d2 d3 (IntKind.i64.wrap (d4 + 1))
          else
          bif inb d4 d3.length then
            (nth d3 d4.toNat).bind fun (b4 : UInt8) =>
            bif (((b4.toNat : Nat) : Int)) == 13 then
              k8 rb d1 d2 d3 (IntKind.i64.wrap (d4 + 1))
            else
            bif decide ((IntKind.i64.wrap (d4 + 1)) < (((d3.length : Nat) : Int))) then
              bif inb d4 d3.length then
                (nth d3 d4.toNat).bind fun (b5 : UInt8) =>
                bif (((b5.toNat : Nat) : Int)) == 45 then
                  bif inb (IntKind.i64.wrap (d4 + 1)) d3.length then
                    (nth d3 (IntKind.i64.wrap (d4 + 1)).toNat).bind fun (b6 : UInt8) =>
                    bif (((b6.toNat : Nat) : Int)) == 45 then
                      (k9 rb d3 d4).bind fun (z7 : Int) =>
                      k8 rb d1 d2 d3 z7
                    else
                    bif inb' d4 d3.length then
                      (c5 rf (sub d3 (some (d4.toNat, (d3.length - d4.toNat)))) d4).bind fun (y8 : (Int × List UInt8 × Int) × Int) =>
                      bif y8.2 != 0 then
                        some (.inl ((y8.2, d4), []))
                      else
                      bif (Nat.ble (d2.length + 1) most) && true then
                        k8 rb d1 (d2 ++ [y8.1]) d3 (IntKind.i64.wrap (d4 + (((y8.1.2.1.length : Nat) : Int))))
                      else
                        none
                    else
                      none
                  else
                    none
                else
                bif inb' d4 d3.length then
                  (c5 rf (sub d3 (some (d4.toNat, (d3.length - d4.toNat)))) d4).bind fun (y9 : (Int × List UInt8 × Int) × Int) =>
                  bif y9.2 != 0 then
                    some (.inl ((y9.2, d4), []))
                  else
                  bif (Nat.ble (d2.length + 1) most) && true then
                    k8 rb d1 (d2 ++ [y9.1]) d3 (IntKind.i64.wrap (d4 + (((y9.1.2.1.length : Nat) : Int))))
                  else
                    none
                else
                  none
              else
                none
            else
            bif inb' d4 d3.length then
              (c5 rf (sub d3 (some (d4.toNat, (d3.length - d4.toNat)))) d4).bind fun (y10 : (Int × List UInt8 × Int) × Int) =>
              bif y10.2 != 0 then
                some (.inl ((y10.2, d4), []))
              else
              bif (Nat.ble (d2.length + 1) most) && true then
                k8 rb d1 (d2 ++ [y10.1]) d3 (IntKind.i64.wrap (d4 + (((y10.1.2.1.length : Nat) : Int))))
              else
                none
            else
              none
          else
            none
        else
          none
      else
        none
    else
      none
  else
    some (.inr (d1, d2))
theorem eb8 (rf : T.RF) (rb : T.RB) (d1 : Int × Int) (d2 : List (Int × List UInt8 × Int)) (d3 : List UInt8) (d4 : Int) : T.stepB rf rb 8 (d1, d2, d3, d4) = b8 rf rb d1 d2 d3 d4 := by kernel_rfl
theorem ob8 {d1 : Int × Int} {d2 : List (Int × List UInt8 × Int)} {d3 : List UInt8} {d4 : Int} {y : (((Int × Int) × List (Int × List UInt8 × Int)) ⊕ ((Int × Int) × List (Int × List UInt8 × Int)))} (h : b8 T.rf T.rb d1 d2 d3 d4 = some y) : k8 T.rb d1 d2 d3 d4 = some y := T.rb_of (κ := 8) (d := (d1, d2, d3, d4)) ((eb8 T.rf T.rb d1 d2 d3 d4).trans h)

/- bailmentref02.Lex loop 2 -/
noncomputable def b9 (rf : T.RF) (rb : T.RB) (d1 : List UInt8) (d2 : Int) : Option Int :=
  bif decide (d2 < (((d1.length : Nat) : Int))) then
    bif inb d2 d1.length then
      (nth d1 d2.toNat).bind fun (b1 : UInt8) =>
      bif (((b1.toNat : Nat) : Int)) != 10 then
        k9 rb d1 (IntKind.i64.wrap (d2 + 1))
      else
        some d2
    else
      none
  else
    some d2
theorem eb9 (rf : T.RF) (rb : T.RB) (d1 : List UInt8) (d2 : Int) : T.stepB rf rb 9 (d1, d2) = b9 rf rb d1 d2 := by kernel_rfl
theorem ob9 {d1 : List UInt8} {d2 : Int} {y : Int} (h : b9 T.rf T.rb d1 d2 = some y) : k9 T.rb d1 d2 = some y := T.rb_of (κ := 9) (d := (d1, d2)) ((eb9 T.rf T.rb d1 d2).trans h)

/- bailmentref02.Lex -/
noncomputable def r4 (rf : T.RF) (rb : T.RB) (d1 : List UInt8) : Option (List (Int × List UInt8 × Int) × Int × Int) :=
  bif decide ((((d1.length : Nat) : Int)) > 100000) then
    some ([], 7, (-1))
  else
    (k8 rb (0, 0) [] d1 0).bind fun (z1 : ((Int × Int) × List (Int × List UInt8 × Int)) ⊕ ((Int × Int) × List (Int × List UInt8 × Int))) =>
    match z1 with
    | .inl u2 =>
      some (u2.2, u2.1)
    | .inr w3 =>
      some (w3.2, 0, 0)
theorem er4 (rf : T.RF) (rb : T.RB) (d1 : List UInt8) : T.stepF rf rb 4 d1 = r4 rf rb d1 := by kernel_rfl
theorem or4 {d1 : List UInt8} {y : (List (Int × List UInt8 × Int) × Int × Int)} (h : r4 T.rf T.rb d1 = some y) : c4 T.rf d1 = some y := T.rf_of (f := 4) (d := d1) ((er4 T.rf T.rb d1).trans h)

/- bailmentref04.At -/
noncomputable def r26 (rf : T.RF) (rb : T.RB) (d1 : List (Int × List UInt8 × Int)) (d2 : Int) : Option Int :=
  bif decide (d2 < 0) then
    some (-1)
  else
  bif decide (d2 ≥ (((d1.length : Nat) : Int))) then
    some (-1)
  else
  bif inb d2 d1.length then
    (nth d1 d2.toNat).bind fun (x1 : Int × List UInt8 × Int) =>
    some x1.2.2
  else
    none
theorem er26 (rf : T.RF) (rb : T.RB) (d1 : List (Int × List UInt8 × Int)) (d2 : Int) : T.stepF rf rb 26 (d1, d2) = r26 rf rb d1 d2 := by kernel_rfl
theorem or26 {d1 : List (Int × List UInt8 × Int)} {d2 : Int} {y : Int} (h : r26 T.rf T.rb d1 d2 = some y) : c26 T.rf d1 d2 = some y := T.rf_of (f := 26) (d := (d1, d2)) ((er26 T.rf T.rb d1 d2).trans h)

/- (*bailment/bailmentref04.Reader).fail -/
noncomputable def r25q (rf : T.RF) (rb : T.RB) (d1 : List (Int × List UInt8 × Int) × Int × Int × Int × Int) (d2 : Int) : Option ((List (Int × List UInt8 × Int) × Int × Int × Int × Int) × XL) :=
  bif d1.2.2.2.1 == 0 then
    agN 1 (
      (c26 rf d1.1 d1.2.1).bind fun (y1 : Int) =>
      some ((d1.1, d1.2.1, d1.2.2.1, d2, y1), [])
    )
  else
    some (d1, [])
noncomputable def r25 (rf : T.RF) (rb : T.RB) (d1 : List (Int × List UInt8 × Int) × Int × Int × Int × Int) (d2 : Int) : Option ((List (Int × List UInt8 × Int) × Int × Int × Int × Int) × XL) :=
  bif d1.2.2.2.1 == 0 then
    (c26 rf d1.1 d1.2.1).bind fun (y1 : Int) =>
    some ((d1.1, d1.2.1, d1.2.2.1, d2, y1), [])
  else
    some (d1, [])
theorem er25 (rf : T.RF) (rb : T.RB) (d1 : List (Int × List UInt8 × Int) × Int × Int × Int × Int) (d2 : Int) : T.stepF rf rb 25 (d1, d2) = r25q rf rb d1 d2 := by kernel_rfl
theorem sr25 (rf : T.RF) (rb : T.RB) (d1 : List (Int × List UInt8 × Int) × Int × Int × Int × Int) (d2 : Int) : r25q rf rb d1 d2 = r25 rf rb d1 d2 := by
  unfold r25q r25; simp only [agN_eq, agree_self, agree_swap]
theorem or25 {d1 : List (Int × List UInt8 × Int) × Int × Int × Int × Int} {d2 : Int} {y : ((List (Int × List UInt8 × Int) × Int × Int × Int × Int) × XL)} (h : r25 T.rf T.rb d1 d2 = some y) : c25 T.rf d1 d2 = some y := T.rf_of (f := 25) (d := (d1, d2)) (((er25 T.rf T.rb d1 d2).trans (sr25 T.rf T.rb d1 d2)).trans h)

/- bailmentref03.leaf -/
noncomputable def r29 (rf : T.RF) (rb : T.RB) (d1 : Int) (d2 : Int) (d3 : List UInt8) : Option XN :=
  some (d1, (-1), (-1), (-1), d2, d3)
theorem er29 (rf : T.RF) (rb : T.RB) (d1 : Int) (d2 : Int) (d3 : List UInt8) : T.stepF rf rb 29 (d1, d2, d3) = r29 rf rb d1 d2 d3 := by kernel_rfl
theorem or29 {d1 : Int} {d2 : Int} {d3 : List UInt8} {y : XN} (h : r29 T.rf T.rb d1 d2 d3 = some y) : c29 T.rf d1 d2 d3 = some y := T.rf_of (f := 29) (d := (d1, d2, d3)) ((er29 T.rf T.rb d1 d2 d3).trans h)

/- bailmentref03.Kids -/
noncomputable def r30 (rf : T.RF) (rb : T.RB) (d1 : XN) : Option (List Int) :=
  bif d1.1 == 4 then
    bif d1.1 == 4 then
      some [d1.2.1]
    else
    bif d1.1 == 26 then
      some [d1.2.1, d1.2.2.1, d1.2.2.2.1]
    else
    bif d1.1 == 27 then
      bif d1.2.1 != (-1) then
        some [d1.2.1]
      else
        some []
    else
    bif d1.1 == 28 then
      bif d1.2.2.1 != (-1) then
        some [d1.2.2.1, d1.2.1]
      else
        some [d1.2.1]
    else
    bif decide (d1.1 ≥ 6) then
      bif decide (d1.1 ≤ 20) then
        some [d1.2.1, d1.2.2.1]
      else
        some []
    else
      some []
  else
  bif d1.1 == 5 then
    bif d1.1 == 5 then
      some [d1.2.1]
    else
    bif d1.1 == 26 then
      some [d1.2.1, d1.2.2.1, d1.2.2.2.1]
    else
    bif d1.1 == 27 then
      bif d1.2.1 != (-1) then
        some [d1.2.1]
      else
        some []
    else
    bif d1.1 == 28 then
      bif d1.2.2.1 != (-1) then
        some [d1.2.2.1, d1.2.1]
      else
        some [d1.2.1]
    else
    bif decide (d1.1 ≥ 6) then
      bif decide (d1.1 ≤ 20) then
        some [d1.2.1, d1.2.2.1]
      else
        some []
    else
      some []
  else
  bif d1.1 == 21 then
    bif d1.1 == 21 then
      some [d1.2.1]
    else
    bif d1.1 == 26 then
      some [d1.2.1, d1.2.2.1, d1.2.2.2.1]
    else
    bif d1.1 == 27 then
      bif d1.2.1 != (-1) then
        some [d1.2.1]
      else
        some []
    else
    bif d1.1 == 28 then
      bif d1.2.2.1 != (-1) then
        some [d1.2.2.1, d1.2.1]
      else
        some [d1.2.1]
    else
    bif decide (d1.1 ≥ 6) then
      bif decide (d1.1 ≤ 20) then
        some [d1.2.1, d1.2.2.1]
      else
        some []
    else
      some []
  else
  bif d1.1 == 22 then
    bif d1.1 == 22 then
      some [d1.2.1]
    else
    bif d1.1 == 26 then
      some [d1.2.1, d1.2.2.1, d1.2.2.2.1]
    else
    bif d1.1 == 27 then
      bif d1.2.1 != (-1) then
        some [d1.2.1]
      else
        some []
    else
    bif d1.1 == 28 then
      bif d1.2.2.1 != (-1) then
        some [d1.2.2.1, d1.2.1]
      else
        some [d1.2.1]
    else
    bif decide (d1.1 ≥ 6) then
      bif decide (d1.1 ≤ 20) then
        some [d1.2.1, d1.2.2.1]
      else
        some []
    else
      some []
  else
  bif d1.1 == 23 then
    bif d1.1 == 23 then
      some [d1.2.1]
    else
    bif d1.1 == 26 then
      some [d1.2.1, d1.2.2.1, d1.2.2.2.1]
    else
    bif d1.1 == 27 then
      bif d1.2.1 != (-1) then
        some [d1.2.1]
      else
        some []
    else
    bif d1.1 == 28 then
      bif d1.2.2.1 != (-1) then
        some [d1.2.2.1, d1.2.1]
      else
        some [d1.2.1]
    else
    bif decide (d1.1 ≥ 6) then
      bif decide (d1.1 ≤ 20) then
        some [d1.2.1, d1.2.2.1]
      else
        some []
    else
      some []
  else
  bif d1.1 == 24 then
    bif d1.1 == 24 then
      some [d1.2.1]
    else
    bif d1.1 == 26 then
      some [d1.2.1, d1.2.2.1, d1.2.2.2.1]
    else
    bif d1.1 == 27 then
      bif d1.2.1 != (-1) then
        some [d1.2.1]
      else
        some []
    else
    bif d1.1 == 28 then
      bif d1.2.2.1 != (-1) then
        some [d1.2.2.1, d1.2.1]
      else
        some [d1.2.1]
    else
    bif decide (d1.1 ≥ 6) then
      bif decide (d1.1 ≤ 20) then
        some [d1.2.1, d1.2.2.1]
      else
        some []
    else
      some []
  else
  bif d1.1 == 25 then
    some [d1.2.1]
  else
  bif d1.1 == 26 then
    some [d1.2.1, d1.2.2.1, d1.2.2.2.1]
  else
  bif d1.1 == 27 then
    bif d1.2.1 != (-1) then
      some [d1.2.1]
    else
      some []
  else
  bif d1.1 == 28 then
    bif d1.2.2.1 != (-1) then
      some [d1.2.2.1, d1.2.1]
    else
      some [d1.2.1]
  else
  bif decide (d1.1 ≥ 6) then
    bif decide (d1.1 ≤ 20) then
      some [d1.2.1, d1.2.2.1]
    else
      some []
  else
    some []
theorem er30 (rf : T.RF) (rb : T.RB) (d1 : XN) : T.stepF rf rb 30 d1 = r30 rf rb d1 := by kernel_rfl
theorem or30 {d1 : XN} {y : (List Int)} (h : r30 T.rf T.rb d1 = some y) : c30 T.rf d1 = some y := T.rf_of (f := 30) (d := d1) ((er30 T.rf T.rb d1).trans h)

/- bailmentref03.move -/
noncomputable def r32 (rf : T.RF) (rb : T.RB) (d1 : XN) (d2 : Int) : Option XN :=
  bif decide (d1.2.1 ≥ 0) then
    bif decide (d1.2.2.1 ≥ 0) then
      bif decide (d1.2.2.2.1 ≥ 0) then
        some (d1.1, IntKind.i64.wrap (d1.2.1 + d2), IntKind.i64.wrap (d1.2.2.1 + d2), IntKind.i64.wrap (d1.2.2.2.1 + d2), d1.2.2.2.2)
      else
        some (d1.1, IntKind.i64.wrap (d1.2.1 + d2), IntKind.i64.wrap (d1.2.2.1 + d2), d1.2.2.2)
    else
    bif decide (d1.2.2.2.1 ≥ 0) then
      some (d1.1, IntKind.i64.wrap (d1.2.1 + d2), d1.2.2.1, IntKind.i64.wrap (d1.2.2.2.1 + d2), d1.2.2.2.2)
    else
      some (d1.1, IntKind.i64.wrap (d1.2.1 + d2), d1.2.2)
  else
  bif decide (d1.2.2.1 ≥ 0) then
    bif decide (d1.2.2.2.1 ≥ 0) then
      some (d1.1, d1.2.1, IntKind.i64.wrap (d1.2.2.1 + d2), IntKind.i64.wrap (d1.2.2.2.1 + d2), d1.2.2.2.2)
    else
      some (d1.1, d1.2.1, IntKind.i64.wrap (d1.2.2.1 + d2), d1.2.2.2)
  else
  bif decide (d1.2.2.2.1 ≥ 0) then
    some (d1.1, d1.2.1, d1.2.2.1, IntKind.i64.wrap (d1.2.2.2.1 + d2), d1.2.2.2.2)
  else
    some d1
theorem er32 (rf : T.RF) (rb : T.RB) (d1 : XN) (d2 : Int) : T.stepF rf rb 32 (d1, d2) = r32 rf rb d1 d2 := by kernel_rfl
theorem or32 {d1 : XN} {d2 : Int} {y : XN} (h : r32 T.rf T.rb d1 d2 = some y) : c32 T.rf d1 d2 = some y := T.rf_of (f := 32) (d := (d1, d2)) ((er32 T.rf T.rb d1 d2).trans h)

/- bailmentref03.behind loop 0 -/
noncomputable def b13 (rf : T.RF) (rb : T.RB) (d1 : XL) (d2 : XL) (d3 : Int) (d4 : Int) : Option XL :=
  bif decide (d4 < (((d2.length : Nat) : Int))) then
    bif inb d4 d2.length then
      (nth d2 d4.toNat).bind fun (x1 : XN) =>
      (c32 rf x1 d3).bind fun (y2 : XN) =>
      bif (Nat.ble (d1.length + 1) most) && true then
        k13 rb (d1 ++ [y2]) d2 d3 (IntKind.i64.wrap (d4 + 1))
      else
        none
    else
      none
  else
    some d1
theorem eb13 (rf : T.RF) (rb : T.RB) (d1 : XL) (d2 : XL) (d3 : Int) (d4 : Int) : T.stepB rf rb 13 (d1, d2, d3, d4) = b13 rf rb d1 d2 d3 d4 := by kernel_rfl
theorem ob13 {d1 : XL} {d2 : XL} {d3 : Int} {d4 : Int} {y : XL} (h : b13 T.rf T.rb d1 d2 d3 d4 = some y) : k13 T.rb d1 d2 d3 d4 = some y := T.rb_of (κ := 13) (d := (d1, d2, d3, d4)) ((eb13 T.rf T.rb d1 d2 d3 d4).trans h)

/- bailmentref03.behind -/
noncomputable def r31 (rf : T.RF) (rb : T.RB) (d1 : XL) (d2 : XL) : Option XL :=
  (k13 rb d1 d2 (((d1.length : Nat) : Int)) 0).bind fun (z1 : XL) =>
  some z1
theorem er31 (rf : T.RF) (rb : T.RB) (d1 : XL) (d2 : XL) : T.stepF rf rb 31 (d1, d2) = r31 rf rb d1 d2 := by kernel_rfl
theorem or31 {d1 : XL} {d2 : XL} {y : XL} (h : r31 T.rf T.rb d1 d2 = some y) : c31 T.rf d1 d2 = some y := T.rf_of (f := 31) (d := (d1, d2)) ((er31 T.rf T.rb d1 d2).trans h)

/- bailmentref03.aim -/
noncomputable def r33 (rf : T.RF) (rb : T.RB) (d1 : XN) (d2 : List Int) : Option XN :=
  bif d1.1 == 28 then
    bif (((d2.length : Nat) : Int)) == 2 then
      bif inb 0 d2.length then
        (nth d2 0).bind fun (x1 : Int) =>
        bif inb 1 d2.length then
          (nth d2 1).bind fun (x2 : Int) =>
          some (d1.1, x2, x1, d1.2.2.2)
        else
          none
      else
        none
    else
    bif decide ((((d2.length : Nat) : Int)) > 0) then
      bif inb 0 d2.length then
        (nth d2 0).bind fun (x3 : Int) =>
        bif decide ((((d2.length : Nat) : Int)) > 1) then
          bif inb 1 d2.length then
            (nth d2 1).bind fun (x4 : Int) =>
            bif decide ((((d2.length : Nat) : Int)) > 2) then
              bif inb 2 d2.length then
                (nth d2 2).bind fun (x5 : Int) =>
                some (d1.1, x3, x4, x5, d1.2.2.2.2)
              else
                none
            else
              some (d1.1, x3, x4, d1.2.2.2)
          else
            none
        else
        bif decide ((((d2.length : Nat) : Int)) > 2) then
          bif inb 2 d2.length then
            (nth d2 2).bind fun (x6 : Int) =>
            some (d1.1, x3, d1.2.2.1, x6, d1.2.2.2.2)
          else
            none
        else
          some (d1.1, x3, d1.2.2)
      else
        none
    else
    bif decide ((((d2.length : Nat) : Int)) > 1) then
      bif inb 1 d2.length then
        (nth d2 1).bind fun (x7 : Int) =>
        bif decide ((((d2.length : Nat) : Int)) > 2) then
          bif inb 2 d2.length then
            (nth d2 2).bind fun (x8 : Int) =>
            some (d1.1, d1.2.1, x7, x8, d1.2.2.2.2)
          else
            none
        else
          some (d1.1, d1.2.1, x7, d1.2.2.2)
      else
        none
    else
    bif decide ((((d2.length : Nat) : Int)) > 2) then
      bif inb 2 d2.length then
        (nth d2 2).bind fun (x9 : Int) =>
        some (d1.1, d1.2.1, d1.2.2.1, x9, d1.2.2.2.2)
      else
        none
    else
      some d1
  else
  bif decide ((((d2.length : Nat) : Int)) > 0) then
    bif inb 0 d2.length then
      (nth d2 0).bind fun (x10 : Int) =>
      bif decide ((((d2.length : Nat) : Int)) > 1) then
        bif inb 1 d2.length then
          (nth d2 1).bind fun (x11 : Int) =>
          bif decide ((((d2.length : Nat) : Int)) > 2) then
            bif inb 2 d2.length then
              (nth d2 2).bind fun (x12 : Int) =>
              some (d1.1, x10, x11, x12, d1.2.2.2.2)
            else
              none
          else
            some (d1.1, x10, x11, d1.2.2.2)
        else
          none
      else
      bif decide ((((d2.length : Nat) : Int)) > 2) then
        bif inb 2 d2.length then
          (nth d2 2).bind fun (x13 : Int) =>
          some (d1.1, x10, d1.2.2.1, x13, d1.2.2.2.2)
        else
          none
      else
        some (d1.1, x10, d1.2.2)
    else
      none
  else
  bif decide ((((d2.length : Nat) : Int)) > 1) then
    bif inb 1 d2.length then
      (nth d2 1).bind fun (x14 : Int) =>
      bif decide ((((d2.length : Nat) : Int)) > 2) then
        bif inb 2 d2.length then
          (nth d2 2).bind fun (x15 : Int) =>
          some (d1.1, d1.2.1, x14, x15, d1.2.2.2.2)
        else
          none
      else
        some (d1.1, d1.2.1, x14, d1.2.2.2)
    else
      none
  else
  bif decide ((((d2.length : Nat) : Int)) > 2) then
    bif inb 2 d2.length then
      (nth d2 2).bind fun (x16 : Int) =>
      some (d1.1, d1.2.1, d1.2.2.1, x16, d1.2.2.2.2)
    else
      none
  else
    some d1
theorem er33 (rf : T.RF) (rb : T.RB) (d1 : XN) (d2 : List Int) : T.stepF rf rb 33 (d1, d2) = r33 rf rb d1 d2 := by kernel_rfl
theorem or33 {d1 : XN} {d2 : List Int} {y : XN} (h : r33 T.rf T.rb d1 d2 = some y) : c33 T.rf d1 d2 = some y := T.rf_of (f := 33) (d := (d1, d2)) ((er33 T.rf T.rb d1 d2).trans h)

/- bailmentref03.Join loop 0 -/
noncomputable def b14 (rf : T.RF) (rb : T.RB) (d1 : XL) (d2 : List Int) (d3 : Int) (d4 : List XL) (d5 : Int) (d6 : Int) : Option (XL ⊕ (XL × List Int × Int)) :=
  bif decide (d6 < (((d4.length : Nat) : Int))) then
    bif inb d6 d4.length then
      (nth d4 d6.toNat).bind fun (x1 : XL) =>
      bif (((x1.length : Nat) : Int)) == 0 then
        some (.inl [])
      else
      bif inb d6 d4.length then
        (nth d4 d6.toNat).bind fun (x2 : XL) =>
        (c31 rf d1 x2).bind fun (y3 : XL) =>
        bif (Nat.ble (d2.length + 1) most) && true then
          bif d3 == 27 then
            (c29 rf 28 0 ([] : List UInt8)).bind fun (y4 : XN) =>
            bif (Nat.ble (y3.length + 1) most) && true then
              k14 rb (y3 ++ [(y4.1, IntKind.i64.wrap ((((y3.length : Nat) : Int)) - 1), d5, y4.2.2.2)]) (d2 ++ [IntKind.i64.wrap ((((y3.length : Nat) : Int)) - 1)]) d3 d4 (((y3.length : Nat) : Int)) (IntKind.i64.wrap (d6 + 1))
            else
              none
          else
            k14 rb y3 (d2 ++ [IntKind.i64.wrap ((((y3.length : Nat) : Int)) - 1)]) d3 d4 d5 (IntKind.i64.wrap (d6 + 1))
        else
          none
      else
        none
    else
      none
  else
    some (.inr (d1, d2, d5))
theorem eb14 (rf : T.RF) (rb : T.RB) (d1 : XL) (d2 : List Int) (d3 : Int) (d4 : List XL) (d5 : Int) (d6 : Int) : T.stepB rf rb 14 (d1, d2, d3, d4, d5, d6) = b14 rf rb d1 d2 d3 d4 d5 d6 := by kernel_rfl
theorem ob14 {d1 : XL} {d2 : List Int} {d3 : Int} {d4 : List XL} {d5 : Int} {d6 : Int} {y : (XL ⊕ (XL × List Int × Int))} (h : b14 T.rf T.rb d1 d2 d3 d4 d5 d6 = some y) : k14 T.rb d1 d2 d3 d4 d5 d6 = some y := T.rb_of (κ := 14) (d := (d1, d2, d3, d4, d5, d6)) ((eb14 T.rf T.rb d1 d2 d3 d4 d5 d6).trans h)

/- bailmentref03.Join -/
noncomputable def r28 (rf : T.RF) (rb : T.RB) (d1 : Int) (d2 : Int) (d3 : List UInt8) (d4 : List XL) : Option XL :=
  (c29 rf d1 d2 d3).bind fun (y1 : XN) =>
  (c30 rf y1).bind fun (y2 : List Int) =>
  bif d1 == 28 then
    some []
  else
  bif d1 != 27 then
    bif (((y2.length : Nat) : Int)) != (((d4.length : Nat) : Int)) then
      some []
    else
      (k14 rb [] [] d1 d4 (-1) 0).bind fun (z3 : XL ⊕ (XL × List Int × Int)) =>
      match z3 with
      | .inl u4 =>
        some u4
      | .inr w5 =>
        bif d1 == 27 then
          bif (Nat.ble (w5.1.length + 1) most) && true then
            some (w5.1 ++ [(y1.1, w5.2.2, y1.2.2)])
          else
            none
        else
          (c33 rf y1 w5.2.1).bind fun (y6 : XN) =>
          bif (Nat.ble (w5.1.length + 1) most) && true then
            some (w5.1 ++ [y6])
          else
            none
  else
    (k14 rb [] [] d1 d4 (-1) 0).bind fun (z7 : XL ⊕ (XL × List Int × Int)) =>
    match z7 with
    | .inl u8 =>
      some u8
    | .inr w9 =>
      bif d1 == 27 then
        bif (Nat.ble (w9.1.length + 1) most) && true then
          some (w9.1 ++ [(y1.1, w9.2.2, y1.2.2)])
        else
          none
      else
        (c33 rf y1 w9.2.1).bind fun (y10 : XN) =>
        bif (Nat.ble (w9.1.length + 1) most) && true then
          some (w9.1 ++ [y10])
        else
          none
theorem er28 (rf : T.RF) (rb : T.RB) (d1 : Int) (d2 : Int) (d3 : List UInt8) (d4 : List XL) : T.stepF rf rb 28 (d1, d2, d3, d4) = r28 rf rb d1 d2 d3 d4 := by kernel_rfl
theorem or28 {d1 : Int} {d2 : Int} {d3 : List UInt8} {d4 : List XL} {y : XL} (h : r28 T.rf T.rb d1 d2 d3 d4 = some y) : c28 T.rf d1 d2 d3 d4 = some y := T.rf_of (f := 28) (d := (d1, d2, d3, d4)) ((er28 T.rf T.rb d1 d2 d3 d4).trans h)

/- (*bailment/bailmentref04.Reader).is -/
noncomputable def r36 (rf : T.RF) (rb : T.RB) (d1 : List (Int × List UInt8 × Int) × Int × Int × Int × Int) (d2 : List UInt8) : Option ((List (Int × List UInt8 × Int) × Int × Int × Int × Int) × Bool) :=
  bif d1.2.2.2.1 != 0 then
    some (d1, false)
  else
  bif decide (d1.2.1 ≥ (((d1.1.length : Nat) : Int))) then
    some (d1, false)
  else
  bif inb d1.2.1 d1.1.length then
    (nth d1.1 d1.2.1.toNat).bind fun (x1 : Int × List UInt8 × Int) =>
    bif x1.1 == 4 then
      some (d1, x1.2.1 == d2)
    else
    bif x1.1 == 3 then
      some (d1, x1.2.1 == d2)
    else
      some (d1, false)
  else
    none
theorem er36 (rf : T.RF) (rb : T.RB) (d1 : List (Int × List UInt8 × Int) × Int × Int × Int × Int) (d2 : List UInt8) : T.stepF rf rb 36 (d1, d2) = r36 rf rb d1 d2 := by kernel_rfl
theorem or36 {d1 : List (Int × List UInt8 × Int) × Int × Int × Int × Int} {d2 : List UInt8} {y : ((List (Int × List UInt8 × Int) × Int × Int × Int × Int) × Bool)} (h : r36 T.rf T.rb d1 d2 = some y) : c36 T.rf d1 d2 = some y := T.rf_of (f := 36) (d := (d1, d2)) ((er36 T.rf T.rb d1 d2).trans h)

/- (*bailment/bailmentref04.Reader).take -/
noncomputable def r35 (rf : T.RF) (rb : T.RB) (d1 : List (Int × List UInt8 × Int) × Int × Int × Int × Int) (d2 : List UInt8) : Option ((List (Int × List UInt8 × Int) × Int × Int × Int × Int) × Bool) :=
  (c36 rf d1 d2).bind fun (y1 : (List (Int × List UInt8 × Int) × Int × Int × Int × Int) × Bool) =>
  bif !y1.2 then
    some (y1.1, false)
  else
    some ((y1.1.1, IntKind.i64.wrap (y1.1.2.1 + 1), y1.1.2.2), true)
theorem er35 (rf : T.RF) (rb : T.RB) (d1 : List (Int × List UInt8 × Int) × Int × Int × Int × Int) (d2 : List UInt8) : T.stepF rf rb 35 (d1, d2) = r35 rf rb d1 d2 := by kernel_rfl
theorem or35 {d1 : List (Int × List UInt8 × Int) × Int × Int × Int × Int} {d2 : List UInt8} {y : ((List (Int × List UInt8 × Int) × Int × Int × Int × Int) × Bool)} (h : r35 T.rf T.rb d1 d2 = some y) : c35 T.rf d1 d2 = some y := T.rf_of (f := 35) (d := (d1, d2)) ((er35 T.rf T.rb d1 d2).trans h)

/- (*bailment/bailmentref04.Reader).need -/
noncomputable def r38 (rf : T.RF) (rb : T.RB) (d1 : List (Int × List UInt8 × Int) × Int × Int × Int × Int) (d2 : List UInt8) : Option (List (Int × List UInt8 × Int) × Int × Int × Int × Int) :=
  (c35 rf d1 d2).bind fun (y1 : (List (Int × List UInt8 × Int) × Int × Int × Int × Int) × Bool) =>
  bif !y1.2 then
    (c25 rf y1.1 5).bind fun (y2 : (List (Int × List UInt8 × Int) × Int × Int × Int × Int) × XL) =>
    some y2.1
  else
    some y1.1
theorem er38 (rf : T.RF) (rb : T.RB) (d1 : List (Int × List UInt8 × Int) × Int × Int × Int × Int) (d2 : List UInt8) : T.stepF rf rb 38 (d1, d2) = r38 rf rb d1 d2 := by kernel_rfl
theorem or38 {d1 : List (Int × List UInt8 × Int) × Int × Int × Int × Int} {d2 : List UInt8} {y : (List (Int × List UInt8 × Int) × Int × Int × Int × Int)} (h : r38 T.rf T.rb d1 d2 = some y) : c38 T.rf d1 d2 = some y := T.rf_of (f := 38) (d := (d1, d2)) ((er38 T.rf T.rb d1 d2).trans h)

/- (*bailment/bailmentref04.Reader).Args loop 0 -/
noncomputable def b16 (rf : T.RF) (rb : T.RB) (d1 : List (Int × List UInt8 × Int) × Int × Int × Int × Int) (d2 : List XL) : Option (((List (Int × List UInt8 × Int) × Int × Int × Int × Int) × List XL) ⊕ (List (Int × List UInt8 × Int) × Int × Int × Int × Int)) :=
  bif d1.2.2.2.1 == 0 then
    (c16 rf d1).bind fun (y1 : (List (Int × List UInt8 × Int) × Int × Int × Int × Int) × XL) =>
    bif (Nat.ble (d2.length + 1) most) && true then
      (c35 rf y1.1 ([41] : List UInt8)).bind fun (y2 : (List (Int × List UInt8 × Int) × Int × Int × Int × Int) × Bool) =>
      bif y2.2 then
        some (.inl (y2.1, d2 ++ [y1.2]))
      else
        (c38 rf y2.1 ([44] : List UInt8)).bind fun (y3 : List (Int × List UInt8 × Int) × Int × Int × Int × Int) =>
        k16 rb y3 (d2 ++ [y1.2])
    else
      none
  else
    some (.inr d1)
theorem eb16 (rf : T.RF) (rb : T.RB) (d1 : List (Int × List UInt8 × Int) × Int × Int × Int × Int) (d2 : List XL) : T.stepB rf rb 16 (d1, d2) = b16 rf rb d1 d2 := by kernel_rfl
theorem ob16 {d1 : List (Int × List UInt8 × Int) × Int × Int × Int × Int} {d2 : List XL} {y : (((List (Int × List UInt8 × Int) × Int × Int × Int × Int) × List XL) ⊕ (List (Int × List UInt8 × Int) × Int × Int × Int × Int))} (h : b16 T.rf T.rb d1 d2 = some y) : k16 T.rb d1 d2 = some y := T.rb_of (κ := 16) (d := (d1, d2)) ((eb16 T.rf T.rb d1 d2).trans h)

/- (*bailment/bailmentref04.Reader).Args -/
noncomputable def r37 (rf : T.RF) (rb : T.RB) (d1 : List (Int × List UInt8 × Int) × Int × Int × Int × Int) : Option ((List (Int × List UInt8 × Int) × Int × Int × Int × Int) × List XL) :=
  (c35 rf d1 ([41] : List UInt8)).bind fun (y1 : (List (Int × List UInt8 × Int) × Int × Int × Int × Int) × Bool) =>
  bif y1.2 then
    some (y1.1, [])
  else
    (k16 rb y1.1 []).bind fun (z2 : ((List (Int × List UInt8 × Int) × Int × Int × Int × Int) × List XL) ⊕ (List (Int × List UInt8 × Int) × Int × Int × Int × Int)) =>
    match z2 with
    | .inl u3 =>
      some u3
    | .inr w4 =>
      some (w4, [])
theorem er37 (rf : T.RF) (rb : T.RB) (d1 : List (Int × List UInt8 × Int) × Int × Int × Int × Int) : T.stepF rf rb 37 d1 = r37 rf rb d1 := by kernel_rfl
theorem or37 {d1 : List (Int × List UInt8 × Int) × Int × Int × Int × Int} {y : ((List (Int × List UInt8 × Int) × Int × Int × Int × Int) × List XL)} (h : r37 T.rf T.rb d1 = some y) : c37 T.rf d1 = some y := T.rf_of (f := 37) (d := d1) ((er37 T.rf T.rb d1).trans h)

/- (*bailment/bailmentref04.Reader).named -/
noncomputable def r34 (rf : T.RF) (rb : T.RB) (d1 : List (Int × List UInt8 × Int) × Int × Int × Int × Int) (d2 : List UInt8) : Option ((List (Int × List UInt8 × Int) × Int × Int × Int × Int) × XL) :=
  (c35 rf (d1.1, IntKind.i64.wrap (d1.2.1 + 1), d1.2.2) ([40] : List UInt8)).bind fun (y1 : (List (Int × List UInt8 × Int) × Int × Int × Int × Int) × Bool) =>
  bif !y1.2 then
    (c28 rf 3 0 d2 []).bind fun (y2 : XL) =>
    some (y1.1, y2)
  else
    (c37 rf y1.1).bind fun (y3 : (List (Int × List UInt8 × Int) × Int × Int × Int × Int) × List XL) =>
    bif y3.1.2.2.2.1 != 0 then
      some (y3.1, [])
    else
      (c28 rf 27 0 d2 y3.2).bind fun (y4 : XL) =>
      some (y3.1, y4)
theorem er34 (rf : T.RF) (rb : T.RB) (d1 : List (Int × List UInt8 × Int) × Int × Int × Int × Int) (d2 : List UInt8) : T.stepF rf rb 34 (d1, d2) = r34 rf rb d1 d2 := by kernel_rfl
theorem or34 {d1 : List (Int × List UInt8 × Int) × Int × Int × Int × Int} {d2 : List UInt8} {y : ((List (Int × List UInt8 × Int) × Int × Int × Int × Int) × XL)} (h : r34 T.rf T.rb d1 d2 = some y) : c34 T.rf d1 d2 = some y := T.rf_of (f := 34) (d := (d1, d2)) ((er34 T.rf T.rb d1 d2).trans h)

/- bailmentref04.prefix -/
noncomputable def r39 (rf : T.RF) (rb : T.RB) (d1 : List UInt8) : Option Int :=
  bif d1 == ([110, 111, 116] : List UInt8) then
    some 4
  else
  bif d1 == ([45] : List UInt8) then
    some 5
  else
  bif d1 == ([112, 114, 101] : List UInt8) then
    some 21
  else
  bif d1 == ([111, 110, 99, 101] : List UInt8) then
    some 22
  else
  bif d1 == ([104, 105, 115, 116] : List UInt8) then
    some 23
  else
  bif d1 == ([112, 114, 101, 118] : List UInt8) then
    some 24
  else
  bif d1 == ([119, 105, 116, 104, 105, 110] : List UInt8) then
    some 25
  else
    some 0
theorem er39 (rf : T.RF) (rb : T.RB) (d1 : List UInt8) : T.stepF rf rb 39 d1 = r39 rf rb d1 := by kernel_rfl
theorem or39 {d1 : List UInt8} {y : Int} (h : r39 T.rf T.rb d1 = some y) : c39 T.rf d1 = some y := T.rf_of (f := 39) (d := d1) ((er39 T.rf T.rb d1).trans h)

/- (*bailment/bailmentref04.Reader).within -/
noncomputable def r40 (rf : T.RF) (rb : T.RB) (d1 : List (Int × List UInt8 × Int) × Int × Int × Int × Int) : Option ((List (Int × List UInt8 × Int) × Int × Int × Int × Int) × XL) :=
  bif decide ((IntKind.i64.wrap (d1.2.1 + 1)) ≥ (((d1.1.length : Nat) : Int))) then
    (c25 rf (d1.1, IntKind.i64.wrap (d1.2.1 + 1), d1.2.2) 5).bind fun (y1 : (List (Int × List UInt8 × Int) × Int × Int × Int × Int) × XL) =>
    some y1
  else
  bif inb (IntKind.i64.wrap (d1.2.1 + 1)) d1.1.length then
    (nth d1.1 (IntKind.i64.wrap (d1.2.1 + 1)).toNat).bind fun (x2 : Int × List UInt8 × Int) =>
    bif x2.1 != 2 then
      (c25 rf (d1.1, IntKind.i64.wrap (d1.2.1 + 1), d1.2.2) 5).bind fun (y3 : (List (Int × List UInt8 × Int) × Int × Int × Int × Int) × XL) =>
      some y3
    else
    bif inb (IntKind.i64.wrap (d1.2.1 + 1)) d1.1.length then
      (nth d1.1 (IntKind.i64.wrap (d1.2.1 + 1)).toNat).bind fun (x4 : Int × List UInt8 × Int) =>
      (c7 rf x4.2.1).bind fun (y5 : Int) =>
      bif decide (y5 > 1000) then
        (c25 rf (d1.1, IntKind.i64.wrap (d1.2.1 + 1), d1.2.2) 5).bind fun (y6 : (List (Int × List UInt8 × Int) × Int × Int × Int × Int) × XL) =>
        some y6
      else
      bif inb (IntKind.i64.wrap (d1.2.1 + 1)) d1.1.length then
        (nth d1.1 (IntKind.i64.wrap (d1.2.1 + 1)).toNat).bind fun (x7 : Int × List UInt8 × Int) =>
        (c7 rf x7.2.1).bind fun (y8 : Int) =>
        (c24 rf (d1.1, IntKind.i64.wrap ((IntKind.i64.wrap (d1.2.1 + 1)) + 1), d1.2.2)).bind fun (y9 : (List (Int × List UInt8 × Int) × Int × Int × Int × Int) × XL) =>
        bif y9.1.2.2.2.1 != 0 then
          some (y9.1, [])
        else
          (c28 rf 25 y8 ([] : List UInt8) [y9.2]).bind fun (y10 : XL) =>
          some (y9.1, y10)
      else
        none
    else
      none
  else
    none
theorem er40 (rf : T.RF) (rb : T.RB) (d1 : List (Int × List UInt8 × Int) × Int × Int × Int × Int) : T.stepF rf rb 40 d1 = r40 rf rb d1 := by kernel_rfl
theorem or40 {d1 : List (Int × List UInt8 × Int) × Int × Int × Int × Int} {y : ((List (Int × List UInt8 × Int) × Int × Int × Int × Int) × XL)} (h : r40 T.rf T.rb d1 = some y) : c40 T.rf d1 = some y := T.rf_of (f := 40) (d := d1) ((er40 T.rf T.rb d1).trans h)

/- (*bailment/bailmentref04.Reader).choice -/
noncomputable def r41 (rf : T.RF) (rb : T.RB) (d1 : List (Int × List UInt8 × Int) × Int × Int × Int × Int) : Option ((List (Int × List UInt8 × Int) × Int × Int × Int × Int) × XL) :=
  (c16 rf d1).bind fun (y1 : (List (Int × List UInt8 × Int) × Int × Int × Int × Int) × XL) =>
  (c38 rf y1.1 ([116, 104, 101, 110] : List UInt8)).bind fun (y2 : List (Int × List UInt8 × Int) × Int × Int × Int × Int) =>
  (c16 rf y2).bind fun (y3 : (List (Int × List UInt8 × Int) × Int × Int × Int × Int) × XL) =>
  (c38 rf y3.1 ([101, 108, 115, 101] : List UInt8)).bind fun (y4 : List (Int × List UInt8 × Int) × Int × Int × Int × Int) =>
  (c16 rf y4).bind fun (y5 : (List (Int × List UInt8 × Int) × Int × Int × Int × Int) × XL) =>
  bif y5.1.2.2.2.1 != 0 then
    some (y5.1, [])
  else
    (c28 rf 26 0 ([] : List UInt8) [y1.2, y3.2, y5.2]).bind fun (y6 : XL) =>
    some (y5.1, y6)
theorem er41 (rf : T.RF) (rb : T.RB) (d1 : List (Int × List UInt8 × Int) × Int × Int × Int × Int) : T.stepF rf rb 41 d1 = r41 rf rb d1 := by kernel_rfl
theorem or41 {d1 : List (Int × List UInt8 × Int) × Int × Int × Int × Int} {y : ((List (Int × List UInt8 × Int) × Int × Int × Int × Int) × XL)} (h : r41 T.rf T.rb d1 = some y) : c41 T.rf d1 = some y := T.rf_of (f := 41) (d := d1) ((er41 T.rf T.rb d1).trans h)

/- (*bailment/bailmentref04.Reader).begun -/
noncomputable def r27 (rf : T.RF) (rb : T.RB) (d1 : List (Int × List UInt8 × Int) × Int × Int × Int × Int) (d2 : Int × List UInt8 × Int) : Option ((List (Int × List UInt8 × Int) × Int × Int × Int × Int) × XL) :=
  bif d2.1 == 2 then
    (c7 rf d2.2.1).bind fun (y1 : Int) =>
    (c28 rf 1 y1 ([] : List UInt8) []).bind fun (y2 : XL) =>
    some ((d1.1, IntKind.i64.wrap (d1.2.1 + 1), d1.2.2), y2)
  else
  bif d2.1 == 1 then
    (c34 rf d1 d2.2.1).bind fun (y3 : (List (Int × List UInt8 × Int) × Int × Int × Int × Int) × XL) =>
    some y3
  else
  bif d2.1 != 4 then
    bif d2.1 != 3 then
      (c25 rf d1 5).bind fun (y4 : (List (Int × List UInt8 × Int) × Int × Int × Int × Int) × XL) =>
      some y4
    else
      (c39 rf d2.2.1).bind fun (y5 : Int) =>
      bif y5 == 25 then
        (c40 rf d1).bind fun (y6 : (List (Int × List UInt8 × Int) × Int × Int × Int × Int) × XL) =>
        some y6
      else
      bif decide (y5 > 0) then
        (c24 rf (d1.1, IntKind.i64.wrap (d1.2.1 + 1), d1.2.2)).bind fun (y7 : (List (Int × List UInt8 × Int) × Int × Int × Int × Int) × XL) =>
        bif y7.1.2.2.2.1 != 0 then
          some (y7.1, [])
        else
          (c28 rf y5 0 ([] : List UInt8) [y7.2]).bind fun (y8 : XL) =>
          some (y7.1, y8)
      else
        (c35 rf d1 ([116, 114, 117, 101] : List UInt8)).bind fun (y9 : (List (Int × List UInt8 × Int) × Int × Int × Int × Int) × Bool) =>
        bif y9.2 then
          (c28 rf 2 1 ([] : List UInt8) []).bind fun (y10 : XL) =>
          some (y9.1, y10)
        else
          (c35 rf y9.1 ([102, 97, 108, 115, 101] : List UInt8)).bind fun (y11 : (List (Int × List UInt8 × Int) × Int × Int × Int × Int) × Bool) =>
          bif y11.2 then
            (c28 rf 2 0 ([] : List UInt8) []).bind fun (y12 : XL) =>
            some (y11.1, y12)
          else
            (c35 rf y11.1 ([40] : List UInt8)).bind fun (y13 : (List (Int × List UInt8 × Int) × Int × Int × Int × Int) × Bool) =>
            bif y13.2 then
              (c16 rf y13.1).bind fun (y14 : (List (Int × List UInt8 × Int) × Int × Int × Int × Int) × XL) =>
              (c38 rf y14.1 ([41] : List UInt8)).bind fun (y15 : List (Int × List UInt8 × Int) × Int × Int × Int × Int) =>
              some (y15, y14.2)
            else
              (c35 rf y13.1 ([105, 102] : List UInt8)).bind fun (y16 : (List (Int × List UInt8 × Int) × Int × Int × Int × Int) × Bool) =>
              bif y16.2 then
                (c41 rf y16.1).bind fun (y17 : (List (Int × List UInt8 × Int) × Int × Int × Int × Int) × XL) =>
                some y17
              else
                (c25 rf y16.1 5).bind fun (y18 : (List (Int × List UInt8 × Int) × Int × Int × Int × Int) × XL) =>
                some y18
  else
    (c39 rf d2.2.1).bind fun (y19 : Int) =>
    bif y19 == 25 then
      (c40 rf d1).bind fun (y20 : (List (Int × List UInt8 × Int) × Int × Int × Int × Int) × XL) =>
      some y20
    else
    bif decide (y19 > 0) then
      (c24 rf (d1.1, IntKind.i64.wrap (d1.2.1 + 1), d1.2.2)).bind fun (y21 : (List (Int × List UInt8 × Int) × Int × Int × Int × Int) × XL) =>
      bif y21.1.2.2.2.1 != 0 then
        some (y21.1, [])
      else
        (c28 rf y19 0 ([] : List UInt8) [y21.2]).bind fun (y22 : XL) =>
        some (y21.1, y22)
    else
      (c35 rf d1 ([116, 114, 117, 101] : List UInt8)).bind fun (y23 : (List (Int × List UInt8 × Int) × Int × Int × Int × Int) × Bool) =>
      bif y23.2 then
        (c28 rf 2 1 ([] : List UInt8) []).bind fun (y24 : XL) =>
        some (y23.1, y24)
      else
        (c35 rf y23.1 ([102, 97, 108, 115, 101] : List UInt8)).bind fun (y25 : (List (Int × List UInt8 × Int) × Int × Int × Int × Int) × Bool) =>
        bif y25.2 then
          (c28 rf 2 0 ([] : List UInt8) []).bind fun (y26 : XL) =>
          some (y25.1, y26)
        else
          (c35 rf y25.1 ([40] : List UInt8)).bind fun (y27 : (List (Int × List UInt8 × Int) × Int × Int × Int × Int) × Bool) =>
          bif y27.2 then
            (c16 rf y27.1).bind fun (y28 : (List (Int × List UInt8 × Int) × Int × Int × Int × Int) × XL) =>
            (c38 rf y28.1 ([41] : List UInt8)).bind fun (y29 : List (Int × List UInt8 × Int) × Int × Int × Int × Int) =>
            some (y29, y28.2)
          else
            (c35 rf y27.1 ([105, 102] : List UInt8)).bind fun (y30 : (List (Int × List UInt8 × Int) × Int × Int × Int × Int) × Bool) =>
            bif y30.2 then
              (c41 rf y30.1).bind fun (y31 : (List (Int × List UInt8 × Int) × Int × Int × Int × Int) × XL) =>
              some y31
            else
              (c25 rf y30.1 5).bind fun (y32 : (List (Int × List UInt8 × Int) × Int × Int × Int × Int) × XL) =>
              some y32
theorem er27 (rf : T.RF) (rb : T.RB) (d1 : List (Int × List UInt8 × Int) × Int × Int × Int × Int) (d2 : Int × List UInt8 × Int) : T.stepF rf rb 27 (d1, d2) = r27 rf rb d1 d2 := by kernel_rfl
theorem or27 {d1 : List (Int × List UInt8 × Int) × Int × Int × Int × Int} {d2 : Int × List UInt8 × Int} {y : ((List (Int × List UInt8 × Int) × Int × Int × Int × Int) × XL)} (h : r27 T.rf T.rb d1 d2 = some y) : c27 T.rf d1 d2 = some y := T.rf_of (f := 27) (d := (d1, d2)) ((er27 T.rf T.rb d1 d2).trans h)

/- (*bailment/bailmentref04.Reader).operand -/
noncomputable def r24 (rf : T.RF) (rb : T.RB) (d1 : List (Int × List UInt8 × Int) × Int × Int × Int × Int) : Option ((List (Int × List UInt8 × Int) × Int × Int × Int × Int) × XL) :=
  bif d1.2.2.2.1 != 0 then
    some (d1, [])
  else
  bif decide (d1.2.2.1 ≥ 200) then
    (c25 rf d1 6).bind fun (y1 : (List (Int × List UInt8 × Int) × Int × Int × Int × Int) × XL) =>
    some y1
  else
  bif decide (d1.2.1 ≥ (((d1.1.length : Nat) : Int))) then
    (c25 rf d1 5).bind fun (y2 : (List (Int × List UInt8 × Int) × Int × Int × Int × Int) × XL) =>
    some y2
  else
  bif inb d1.2.1 d1.1.length then
    (nth d1.1 d1.2.1.toNat).bind fun (x3 : Int × List UInt8 × Int) =>
    (c27 rf (d1.1, d1.2.1, IntKind.i64.wrap (d1.2.2.1 + 1), d1.2.2.2) x3).bind fun (y4 : (List (Int × List UInt8 × Int) × Int × Int × Int × Int) × XL) =>
    some ((y4.1.1, y4.1.2.1, IntKind.i64.wrap (y4.1.2.2.1 - 1), y4.1.2.2.2), y4.2)
  else
    none
theorem er24 (rf : T.RF) (rb : T.RB) (d1 : List (Int × List UInt8 × Int) × Int × Int × Int × Int) : T.stepF rf rb 24 d1 = r24 rf rb d1 := by kernel_rfl
theorem or24 {d1 : List (Int × List UInt8 × Int) × Int × Int × Int × Int} {y : ((List (Int × List UInt8 × Int) × Int × Int × Int × Int) × XL)} (h : r24 T.rf T.rb d1 = some y) : c24 T.rf d1 = some y := T.rf_of (f := 24) (d := d1) ((er24 T.rf T.rb d1).trans h)

/- (*bailment/bailmentref04.Reader).join -/
noncomputable def r42 (rf : T.RF) (rb : T.RB) (d1 : List (Int × List UInt8 × Int) × Int × Int × Int × Int) (d2 : Int) (d3 : XL) (d4 : XL) : Option ((List (Int × List UInt8 × Int) × Int × Int × Int × Int) × XL) :=
  bif d1.2.2.2.1 != 0 then
    some (d1, [])
  else
    (c28 rf d2 0 ([] : List UInt8) [d3, d4]).bind fun (y1 : XL) =>
    some (d1, y1)
theorem er42 (rf : T.RF) (rb : T.RB) (d1 : List (Int × List UInt8 × Int) × Int × Int × Int × Int) (d2 : Int) (d3 : XL) (d4 : XL) : T.stepF rf rb 42 (d1, d2, d3, d4) = r42 rf rb d1 d2 d3 d4 := by kernel_rfl
theorem or42 {d1 : List (Int × List UInt8 × Int) × Int × Int × Int × Int} {d2 : Int} {d3 : XL} {d4 : XL} {y : ((List (Int × List UInt8 × Int) × Int × Int × Int × Int) × XL)} (h : r42 T.rf T.rb d1 d2 d3 d4 = some y) : c42 T.rf d1 d2 d3 d4 = some y := T.rf_of (f := 42) (d := (d1, d2, d3, d4)) ((er42 T.rf T.rb d1 d2 d3 d4).trans h)

/- (*bailment/bailmentref04.Reader).prod loop 0 -/
noncomputable def b18 (rf : T.RF) (rb : T.RB) (d1 : List (Int × List UInt8 × Int) × Int × Int × Int × Int) (d2 : XL) : Option ((List (Int × List UInt8 × Int) × Int × Int × Int × Int) × XL) :=
  (c36 rf d1 ([42] : List UInt8)).bind fun (y1 : (List (Int × List UInt8 × Int) × Int × Int × Int × Int) × Bool) =>
  bif y1.2 then
    (c36 rf y1.1 ([100, 105, 118] : List UInt8)).bind fun (y2 : (List (Int × List UInt8 × Int) × Int × Int × Int × Int) × Bool) =>
    bif y2.2 then
      (c36 rf y2.1 ([109, 111, 100] : List UInt8)).bind fun (y3 : (List (Int × List UInt8 × Int) × Int × Int × Int × Int) × Bool) =>
      bif y3.2 then
        (c24 rf (y3.1.1, IntKind.i64.wrap (y3.1.2.1 + 1), y3.1.2.2)).bind fun (y4 : (List (Int × List UInt8 × Int) × Int × Int × Int × Int) × XL) =>
        (c42 rf y4.1 18 d2 y4.2).bind fun (y5 : (List (Int × List UInt8 × Int) × Int × Int × Int × Int) × XL) =>
        k18 rb y5.1 y5.2
      else
        (c24 rf (y3.1.1, IntKind.i64.wrap (y3.1.2.1 + 1), y3.1.2.2)).bind fun (y6 : (List (Int × List UInt8 × Int) × Int × Int × Int × Int) × XL) =>
        (c42 rf y6.1 17 d2 y6.2).bind fun (y7 : (List (Int × List UInt8 × Int) × Int × Int × Int × Int) × XL) =>
        k18 rb y7.1 y7.2
    else
      (c36 rf y2.1 ([109, 111, 100] : List UInt8)).bind fun (y8 : (List (Int × List UInt8 × Int) × Int × Int × Int × Int) × Bool) =>
      bif y8.2 then
        (c24 rf (y8.1.1, IntKind.i64.wrap (y8.1.2.1 + 1), y8.1.2.2)).bind fun (y9 : (List (Int × List UInt8 × Int) × Int × Int × Int × Int) × XL) =>
        (c42 rf y9.1 18 d2 y9.2).bind fun (y10 : (List (Int × List UInt8 × Int) × Int × Int × Int × Int) × XL) =>
        k18 rb y10.1 y10.2
      else
        (c24 rf (y8.1.1, IntKind.i64.wrap (y8.1.2.1 + 1), y8.1.2.2)).bind fun (y11 : (List (Int × List UInt8 × Int) × Int × Int × Int × Int) × XL) =>
        (c42 rf y11.1 16 d2 y11.2).bind fun (y12 : (List (Int × List UInt8 × Int) × Int × Int × Int × Int) × XL) =>
        k18 rb y12.1 y12.2
  else
    (c36 rf y1.1 ([100, 105, 118] : List UInt8)).bind fun (y13 : (List (Int × List UInt8 × Int) × Int × Int × Int × Int) × Bool) =>
    bif y13.2 then
      (c36 rf y13.1 ([100, 105, 118] : List UInt8)).bind fun (y14 : (List (Int × List UInt8 × Int) × Int × Int × Int × Int) × Bool) =>
      bif y14.2 then
        (c36 rf y14.1 ([109, 111, 100] : List UInt8)).bind fun (y15 : (List (Int × List UInt8 × Int) × Int × Int × Int × Int) × Bool) =>
        bif y15.2 then
          (c24 rf (y15.1.1, IntKind.i64.wrap (y15.1.2.1 + 1), y15.1.2.2)).bind fun (y16 : (List (Int × List UInt8 × Int) × Int × Int × Int × Int) × XL) =>
          (c42 rf y16.1 18 d2 y16.2).bind fun (y17 : (List (Int × List UInt8 × Int) × Int × Int × Int × Int) × XL) =>
          k18 rb y17.1 y17.2
        else
          (c24 rf (y15.1.1, IntKind.i64.wrap (y15.1.2.1 + 1), y15.1.2.2)).bind fun (y18 : (List (Int × List UInt8 × Int) × Int × Int × Int × Int) × XL) =>
          (c42 rf y18.1 17 d2 y18.2).bind fun (y19 : (List (Int × List UInt8 × Int) × Int × Int × Int × Int) × XL) =>
          k18 rb y19.1 y19.2
      else
        (c36 rf y14.1 ([109, 111, 100] : List UInt8)).bind fun (y20 : (List (Int × List UInt8 × Int) × Int × Int × Int × Int) × Bool) =>
        bif y20.2 then
          (c24 rf (y20.1.1, IntKind.i64.wrap (y20.1.2.1 + 1), y20.1.2.2)).bind fun (y21 : (List (Int × List UInt8 × Int) × Int × Int × Int × Int) × XL) =>
          (c42 rf y21.1 18 d2 y21.2).bind fun (y22 : (List (Int × List UInt8 × Int) × Int × Int × Int × Int) × XL) =>
          k18 rb y22.1 y22.2
        else
          (c24 rf (y20.1.1, IntKind.i64.wrap (y20.1.2.1 + 1), y20.1.2.2)).bind fun (y23 : (List (Int × List UInt8 × Int) × Int × Int × Int × Int) × XL) =>
          (c42 rf y23.1 16 d2 y23.2).bind fun (y24 : (List (Int × List UInt8 × Int) × Int × Int × Int × Int) × XL) =>
          k18 rb y24.1 y24.2
    else
      (c36 rf y13.1 ([109, 111, 100] : List UInt8)).bind fun (y25 : (List (Int × List UInt8 × Int) × Int × Int × Int × Int) × Bool) =>
      bif y25.2 then
        (c36 rf y25.1 ([100, 105, 118] : List UInt8)).bind fun (y26 : (List (Int × List UInt8 × Int) × Int × Int × Int × Int) × Bool) =>
        bif y26.2 then
          (c36 rf y26.1 ([109, 111, 100] : List UInt8)).bind fun (y27 : (List (Int × List UInt8 × Int) × Int × Int × Int × Int) × Bool) =>
          bif y27.2 then
            (c24 rf (y27.1.1, IntKind.i64.wrap (y27.1.2.1 + 1), y27.1.2.2)).bind fun (y28 : (List (Int × List UInt8 × Int) × Int × Int × Int × Int) × XL) =>
            (c42 rf y28.1 18 d2 y28.2).bind fun (y29 : (List (Int × List UInt8 × Int) × Int × Int × Int × Int) × XL) =>
            k18 rb y29.1 y29.2
          else
            (c24 rf (y27.1.1, IntKind.i64.wrap (y27.1.2.1 + 1), y27.1.2.2)).bind fun (y30 : (List (Int × List UInt8 × Int) × Int × Int × Int × Int) × XL) =>
            (c42 rf y30.1 17 d2 y30.2).bind fun (y31 : (List (Int × List UInt8 × Int) × Int × Int × Int × Int) × XL) =>
            k18 rb y31.1 y31.2
        else
          (c36 rf y26.1 ([109, 111, 100] : List UInt8)).bind fun (y32 : (List (Int × List UInt8 × Int) × Int × Int × Int × Int) × Bool) =>
          bif y32.2 then
            (c24 rf (y32.1.1, IntKind.i64.wrap (y32.1.2.1 + 1), y32.1.2.2)).bind fun (y33 : (List (Int × List UInt8 × Int) × Int × Int × Int × Int) × XL) =>
            (c42 rf y33.1 18 d2 y33.2).bind fun (y34 : (List (Int × List UInt8 × Int) × Int × Int × Int × Int) × XL) =>
            k18 rb y34.1 y34.2
          else
            (c24 rf (y32.1.1, IntKind.i64.wrap (y32.1.2.1 + 1), y32.1.2.2)).bind fun (y35 : (List (Int × List UInt8 × Int) × Int × Int × Int × Int) × XL) =>
            (c42 rf y35.1 16 d2 y35.2).bind fun (y36 : (List (Int × List UInt8 × Int) × Int × Int × Int × Int) × XL) =>
            k18 rb y36.1 y36.2
      else
        some (y25.1, d2)
theorem eb18 (rf : T.RF) (rb : T.RB) (d1 : List (Int × List UInt8 × Int) × Int × Int × Int × Int) (d2 : XL) : T.stepB rf rb 18 (d1, d2) = b18 rf rb d1 d2 := by kernel_rfl
theorem ob18 {d1 : List (Int × List UInt8 × Int) × Int × Int × Int × Int} {d2 : XL} {y : ((List (Int × List UInt8 × Int) × Int × Int × Int × Int) × XL)} (h : b18 T.rf T.rb d1 d2 = some y) : k18 T.rb d1 d2 = some y := T.rb_of (κ := 18) (d := (d1, d2)) ((eb18 T.rf T.rb d1 d2).trans h)

/- (*bailment/bailmentref04.Reader).prod -/
noncomputable def r23 (rf : T.RF) (rb : T.RB) (d1 : List (Int × List UInt8 × Int) × Int × Int × Int × Int) : Option ((List (Int × List UInt8 × Int) × Int × Int × Int × Int) × XL) :=
  (c24 rf d1).bind fun (y1 : (List (Int × List UInt8 × Int) × Int × Int × Int × Int) × XL) =>
  (k18 rb y1.1 y1.2).bind fun (z2 : (List (Int × List UInt8 × Int) × Int × Int × Int × Int) × XL) =>
  some z2
theorem er23 (rf : T.RF) (rb : T.RB) (d1 : List (Int × List UInt8 × Int) × Int × Int × Int × Int) : T.stepF rf rb 23 d1 = r23 rf rb d1 := by kernel_rfl
theorem or23 {d1 : List (Int × List UInt8 × Int) × Int × Int × Int × Int} {y : ((List (Int × List UInt8 × Int) × Int × Int × Int × Int) × XL)} (h : r23 T.rf T.rb d1 = some y) : c23 T.rf d1 = some y := T.rf_of (f := 23) (d := d1) ((er23 T.rf T.rb d1).trans h)

/- (*bailment/bailmentref04.Reader).sum loop 0 -/
noncomputable def b20 (rf : T.RF) (rb : T.RB) (d1 : List (Int × List UInt8 × Int) × Int × Int × Int × Int) (d2 : XL) : Option ((List (Int × List UInt8 × Int) × Int × Int × Int × Int) × XL) :=
  (c36 rf d1 ([43] : List UInt8)).bind fun (y1 : (List (Int × List UInt8 × Int) × Int × Int × Int × Int) × Bool) =>
  bif y1.2 then
    (c36 rf y1.1 ([45] : List UInt8)).bind fun (y2 : (List (Int × List UInt8 × Int) × Int × Int × Int × Int) × Bool) =>
    bif y2.2 then
      (c23 rf (y2.1.1, IntKind.i64.wrap (y2.1.2.1 + 1), y2.1.2.2)).bind fun (y3 : (List (Int × List UInt8 × Int) × Int × Int × Int × Int) × XL) =>
      (c42 rf y3.1 15 d2 y3.2).bind fun (y4 : (List (Int × List UInt8 × Int) × Int × Int × Int × Int) × XL) =>
      k20 rb y4.1 y4.2
    else
      (c23 rf (y2.1.1, IntKind.i64.wrap (y2.1.2.1 + 1), y2.1.2.2)).bind fun (y5 : (List (Int × List UInt8 × Int) × Int × Int × Int × Int) × XL) =>
      (c42 rf y5.1 14 d2 y5.2).bind fun (y6 : (List (Int × List UInt8 × Int) × Int × Int × Int × Int) × XL) =>
      k20 rb y6.1 y6.2
  else
    (c36 rf y1.1 ([45] : List UInt8)).bind fun (y7 : (List (Int × List UInt8 × Int) × Int × Int × Int × Int) × Bool) =>
    bif y7.2 then
      (c36 rf y7.1 ([45] : List UInt8)).bind fun (y8 : (List (Int × List UInt8 × Int) × Int × Int × Int × Int) × Bool) =>
      bif y8.2 then
        (c23 rf (y8.1.1, IntKind.i64.wrap (y8.1.2.1 + 1), y8.1.2.2)).bind fun (y9 : (List (Int × List UInt8 × Int) × Int × Int × Int × Int) × XL) =>
        (c42 rf y9.1 15 d2 y9.2).bind fun (y10 : (List (Int × List UInt8 × Int) × Int × Int × Int × Int) × XL) =>
        k20 rb y10.1 y10.2
      else
        (c23 rf (y8.1.1, IntKind.i64.wrap (y8.1.2.1 + 1), y8.1.2.2)).bind fun (y11 : (List (Int × List UInt8 × Int) × Int × Int × Int × Int) × XL) =>
        (c42 rf y11.1 14 d2 y11.2).bind fun (y12 : (List (Int × List UInt8 × Int) × Int × Int × Int × Int) × XL) =>
        k20 rb y12.1 y12.2
    else
      some (y7.1, d2)
theorem eb20 (rf : T.RF) (rb : T.RB) (d1 : List (Int × List UInt8 × Int) × Int × Int × Int × Int) (d2 : XL) : T.stepB rf rb 20 (d1, d2) = b20 rf rb d1 d2 := by kernel_rfl
theorem ob20 {d1 : List (Int × List UInt8 × Int) × Int × Int × Int × Int} {d2 : XL} {y : ((List (Int × List UInt8 × Int) × Int × Int × Int × Int) × XL)} (h : b20 T.rf T.rb d1 d2 = some y) : k20 T.rb d1 d2 = some y := T.rb_of (κ := 20) (d := (d1, d2)) ((eb20 T.rf T.rb d1 d2).trans h)

/- (*bailment/bailmentref04.Reader).sum -/
noncomputable def r22 (rf : T.RF) (rb : T.RB) (d1 : List (Int × List UInt8 × Int) × Int × Int × Int × Int) : Option ((List (Int × List UInt8 × Int) × Int × Int × Int × Int) × XL) :=
  (c23 rf d1).bind fun (y1 : (List (Int × List UInt8 × Int) × Int × Int × Int × Int) × XL) =>
  (k20 rb y1.1 y1.2).bind fun (z2 : (List (Int × List UInt8 × Int) × Int × Int × Int × Int) × XL) =>
  some z2
theorem er22 (rf : T.RF) (rb : T.RB) (d1 : List (Int × List UInt8 × Int) × Int × Int × Int × Int) : T.stepF rf rb 22 d1 = r22 rf rb d1 := by kernel_rfl
theorem or22 {d1 : List (Int × List UInt8 × Int) × Int × Int × Int × Int} {y : ((List (Int × List UInt8 × Int) × Int × Int × Int × Int) × XL)} (h : r22 T.rf T.rb d1 = some y) : c22 T.rf d1 = some y := T.rf_of (f := 22) (d := d1) ((er22 T.rf T.rb d1).trans h)

/- (*bailment/bailmentref04.Reader).cmp -/
noncomputable def r21 (rf : T.RF) (rb : T.RB) (d1 : List (Int × List UInt8 × Int) × Int × Int × Int × Int) : Option ((List (Int × List UInt8 × Int) × Int × Int × Int × Int) × XL) :=
  (c22 rf d1).bind fun (y1 : (List (Int × List UInt8 × Int) × Int × Int × Int × Int) × XL) =>
  (c35 rf y1.1 ([61] : List UInt8)).bind fun (y2 : (List (Int × List UInt8 × Int) × Int × Int × Int × Int) × Bool) =>
  bif y2.2 then
    (c22 rf y2.1).bind fun (y3 : (List (Int × List UInt8 × Int) × Int × Int × Int × Int) × XL) =>
    (c42 rf y3.1 10 y1.2 y3.2).bind fun (y4 : (List (Int × List UInt8 × Int) × Int × Int × Int × Int) × XL) =>
    some y4
  else
    (c35 rf y2.1 ([60, 62] : List UInt8)).bind fun (y5 : (List (Int × List UInt8 × Int) × Int × Int × Int × Int) × Bool) =>
    bif y5.2 then
      (c22 rf y5.1).bind fun (y6 : (List (Int × List UInt8 × Int) × Int × Int × Int × Int) × XL) =>
      (c42 rf y6.1 11 y1.2 y6.2).bind fun (y7 : (List (Int × List UInt8 × Int) × Int × Int × Int × Int) × XL) =>
      some y7
    else
      (c35 rf y5.1 ([60] : List UInt8)).bind fun (y8 : (List (Int × List UInt8 × Int) × Int × Int × Int × Int) × Bool) =>
      bif y8.2 then
        (c22 rf y8.1).bind fun (y9 : (List (Int × List UInt8 × Int) × Int × Int × Int × Int) × XL) =>
        (c42 rf y9.1 12 y1.2 y9.2).bind fun (y10 : (List (Int × List UInt8 × Int) × Int × Int × Int × Int) × XL) =>
        some y10
      else
        (c35 rf y8.1 ([60, 61] : List UInt8)).bind fun (y11 : (List (Int × List UInt8 × Int) × Int × Int × Int × Int) × Bool) =>
        bif y11.2 then
          (c22 rf y11.1).bind fun (y12 : (List (Int × List UInt8 × Int) × Int × Int × Int × Int) × XL) =>
          (c42 rf y12.1 13 y1.2 y12.2).bind fun (y13 : (List (Int × List UInt8 × Int) × Int × Int × Int × Int) × XL) =>
          some y13
        else
          (c35 rf y11.1 ([62] : List UInt8)).bind fun (y14 : (List (Int × List UInt8 × Int) × Int × Int × Int × Int) × Bool) =>
          bif y14.2 then
            (c22 rf y14.1).bind fun (y15 : (List (Int × List UInt8 × Int) × Int × Int × Int × Int) × XL) =>
            (c42 rf y15.1 12 y15.2 y1.2).bind fun (y16 : (List (Int × List UInt8 × Int) × Int × Int × Int × Int) × XL) =>
            some y16
          else
            (c35 rf y14.1 ([62, 61] : List UInt8)).bind fun (y17 : (List (Int × List UInt8 × Int) × Int × Int × Int × Int) × Bool) =>
            bif y17.2 then
              (c22 rf y17.1).bind fun (y18 : (List (Int × List UInt8 × Int) × Int × Int × Int × Int) × XL) =>
              (c42 rf y18.1 13 y18.2 y1.2).bind fun (y19 : (List (Int × List UInt8 × Int) × Int × Int × Int × Int) × XL) =>
              some y19
            else
              some (y17.1, y1.2)
theorem er21 (rf : T.RF) (rb : T.RB) (d1 : List (Int × List UInt8 × Int) × Int × Int × Int × Int) : T.stepF rf rb 21 d1 = r21 rf rb d1 := by kernel_rfl
theorem or21 {d1 : List (Int × List UInt8 × Int) × Int × Int × Int × Int} {y : ((List (Int × List UInt8 × Int) × Int × Int × Int × Int) × XL)} (h : r21 T.rf T.rb d1 = some y) : c21 T.rf d1 = some y := T.rf_of (f := 21) (d := d1) ((er21 T.rf T.rb d1).trans h)

/- (*bailment/bailmentref04.Reader).and loop 0 -/
noncomputable def b22 (rf : T.RF) (rb : T.RB) (d1 : List (Int × List UInt8 × Int) × Int × Int × Int × Int) (d2 : XL) : Option ((List (Int × List UInt8 × Int) × Int × Int × Int × Int) × XL) :=
  (c35 rf d1 ([97, 110, 100] : List UInt8)).bind fun (y1 : (List (Int × List UInt8 × Int) × Int × Int × Int × Int) × Bool) =>
  bif y1.2 then
    (c21 rf y1.1).bind fun (y2 : (List (Int × List UInt8 × Int) × Int × Int × Int × Int) × XL) =>
    (c42 rf y2.1 6 d2 y2.2).bind fun (y3 : (List (Int × List UInt8 × Int) × Int × Int × Int × Int) × XL) =>
    k22 rb y3.1 y3.2
  else
    some (y1.1, d2)
theorem eb22 (rf : T.RF) (rb : T.RB) (d1 : List (Int × List UInt8 × Int) × Int × Int × Int × Int) (d2 : XL) : T.stepB rf rb 22 (d1, d2) = b22 rf rb d1 d2 := by kernel_rfl
theorem ob22 {d1 : List (Int × List UInt8 × Int) × Int × Int × Int × Int} {d2 : XL} {y : ((List (Int × List UInt8 × Int) × Int × Int × Int × Int) × XL)} (h : b22 T.rf T.rb d1 d2 = some y) : k22 T.rb d1 d2 = some y := T.rb_of (κ := 22) (d := (d1, d2)) ((eb22 T.rf T.rb d1 d2).trans h)

/- (*bailment/bailmentref04.Reader).and -/
noncomputable def r20 (rf : T.RF) (rb : T.RB) (d1 : List (Int × List UInt8 × Int) × Int × Int × Int × Int) : Option ((List (Int × List UInt8 × Int) × Int × Int × Int × Int) × XL) :=
  (c21 rf d1).bind fun (y1 : (List (Int × List UInt8 × Int) × Int × Int × Int × Int) × XL) =>
  (k22 rb y1.1 y1.2).bind fun (z2 : (List (Int × List UInt8 × Int) × Int × Int × Int × Int) × XL) =>
  some z2
theorem er20 (rf : T.RF) (rb : T.RB) (d1 : List (Int × List UInt8 × Int) × Int × Int × Int × Int) : T.stepF rf rb 20 d1 = r20 rf rb d1 := by kernel_rfl
theorem or20 {d1 : List (Int × List UInt8 × Int) × Int × Int × Int × Int} {y : ((List (Int × List UInt8 × Int) × Int × Int × Int × Int) × XL)} (h : r20 T.rf T.rb d1 = some y) : c20 T.rf d1 = some y := T.rf_of (f := 20) (d := d1) ((er20 T.rf T.rb d1).trans h)

/- (*bailment/bailmentref04.Reader).or loop 0 -/
noncomputable def b24 (rf : T.RF) (rb : T.RB) (d1 : List (Int × List UInt8 × Int) × Int × Int × Int × Int) (d2 : XL) : Option ((List (Int × List UInt8 × Int) × Int × Int × Int × Int) × XL) :=
  (c36 rf d1 ([111, 114] : List UInt8)).bind fun (y1 : (List (Int × List UInt8 × Int) × Int × Int × Int × Int) × Bool) =>
  bif y1.2 then
    (c36 rf y1.1 ([120, 111, 114] : List UInt8)).bind fun (y2 : (List (Int × List UInt8 × Int) × Int × Int × Int × Int) × Bool) =>
    bif y2.2 then
      (c20 rf (y2.1.1, IntKind.i64.wrap (y2.1.2.1 + 1), y2.1.2.2)).bind fun (y3 : (List (Int × List UInt8 × Int) × Int × Int × Int × Int) × XL) =>
      (c42 rf y3.1 8 d2 y3.2).bind fun (y4 : (List (Int × List UInt8 × Int) × Int × Int × Int × Int) × XL) =>
      k24 rb y4.1 y4.2
    else
      (c20 rf (y2.1.1, IntKind.i64.wrap (y2.1.2.1 + 1), y2.1.2.2)).bind fun (y5 : (List (Int × List UInt8 × Int) × Int × Int × Int × Int) × XL) =>
      (c42 rf y5.1 7 d2 y5.2).bind fun (y6 : (List (Int × List UInt8 × Int) × Int × Int × Int × Int) × XL) =>
      k24 rb y6.1 y6.2
  else
    (c36 rf y1.1 ([120, 111, 114] : List UInt8)).bind fun (y7 : (List (Int × List UInt8 × Int) × Int × Int × Int × Int) × Bool) =>
    bif y7.2 then
      (c36 rf y7.1 ([120, 111, 114] : List UInt8)).bind fun (y8 : (List (Int × List UInt8 × Int) × Int × Int × Int × Int) × Bool) =>
      bif y8.2 then
        (c20 rf (y8.1.1, IntKind.i64.wrap (y8.1.2.1 + 1), y8.1.2.2)).bind fun (y9 : (List (Int × List UInt8 × Int) × Int × Int × Int × Int) × XL) =>
        (c42 rf y9.1 8 d2 y9.2).bind fun (y10 : (List (Int × List UInt8 × Int) × Int × Int × Int × Int) × XL) =>
        k24 rb y10.1 y10.2
      else
        (c20 rf (y8.1.1, IntKind.i64.wrap (y8.1.2.1 + 1), y8.1.2.2)).bind fun (y11 : (List (Int × List UInt8 × Int) × Int × Int × Int × Int) × XL) =>
        (c42 rf y11.1 7 d2 y11.2).bind fun (y12 : (List (Int × List UInt8 × Int) × Int × Int × Int × Int) × XL) =>
        k24 rb y12.1 y12.2
    else
      some (y7.1, d2)
theorem eb24 (rf : T.RF) (rb : T.RB) (d1 : List (Int × List UInt8 × Int) × Int × Int × Int × Int) (d2 : XL) : T.stepB rf rb 24 (d1, d2) = b24 rf rb d1 d2 := by kernel_rfl
theorem ob24 {d1 : List (Int × List UInt8 × Int) × Int × Int × Int × Int} {d2 : XL} {y : ((List (Int × List UInt8 × Int) × Int × Int × Int × Int) × XL)} (h : b24 T.rf T.rb d1 d2 = some y) : k24 T.rb d1 d2 = some y := T.rb_of (κ := 24) (d := (d1, d2)) ((eb24 T.rf T.rb d1 d2).trans h)

/- (*bailment/bailmentref04.Reader).or -/
noncomputable def r19 (rf : T.RF) (rb : T.RB) (d1 : List (Int × List UInt8 × Int) × Int × Int × Int × Int) : Option ((List (Int × List UInt8 × Int) × Int × Int × Int × Int) × XL) :=
  (c20 rf d1).bind fun (y1 : (List (Int × List UInt8 × Int) × Int × Int × Int × Int) × XL) =>
  (k24 rb y1.1 y1.2).bind fun (z2 : (List (Int × List UInt8 × Int) × Int × Int × Int × Int) × XL) =>
  some z2
theorem er19 (rf : T.RF) (rb : T.RB) (d1 : List (Int × List UInt8 × Int) × Int × Int × Int × Int) : T.stepF rf rb 19 d1 = r19 rf rb d1 := by kernel_rfl
theorem or19 {d1 : List (Int × List UInt8 × Int) × Int × Int × Int × Int} {y : ((List (Int × List UInt8 × Int) × Int × Int × Int × Int) × XL)} (h : r19 T.rf T.rb d1 = some y) : c19 T.rf d1 = some y := T.rf_of (f := 19) (d := d1) ((er19 T.rf T.rb d1).trans h)

/- (*bailment/bailmentref04.Reader).since loop 0 -/
noncomputable def b26 (rf : T.RF) (rb : T.RB) (d1 : List (Int × List UInt8 × Int) × Int × Int × Int × Int) (d2 : XL) : Option ((List (Int × List UInt8 × Int) × Int × Int × Int × Int) × XL) :=
  (c35 rf d1 ([115, 105, 110, 99, 101] : List UInt8)).bind fun (y1 : (List (Int × List UInt8 × Int) × Int × Int × Int × Int) × Bool) =>
  bif y1.2 then
    (c19 rf y1.1).bind fun (y2 : (List (Int × List UInt8 × Int) × Int × Int × Int × Int) × XL) =>
    (c42 rf y2.1 20 d2 y2.2).bind fun (y3 : (List (Int × List UInt8 × Int) × Int × Int × Int × Int) × XL) =>
    k26 rb y3.1 y3.2
  else
    some (y1.1, d2)
theorem eb26 (rf : T.RF) (rb : T.RB) (d1 : List (Int × List UInt8 × Int) × Int × Int × Int × Int) (d2 : XL) : T.stepB rf rb 26 (d1, d2) = b26 rf rb d1 d2 := by kernel_rfl
theorem ob26 {d1 : List (Int × List UInt8 × Int) × Int × Int × Int × Int} {d2 : XL} {y : ((List (Int × List UInt8 × Int) × Int × Int × Int × Int) × XL)} (h : b26 T.rf T.rb d1 d2 = some y) : k26 T.rb d1 d2 = some y := T.rb_of (κ := 26) (d := (d1, d2)) ((eb26 T.rf T.rb d1 d2).trans h)

/- (*bailment/bailmentref04.Reader).since -/
noncomputable def r18 (rf : T.RF) (rb : T.RB) (d1 : List (Int × List UInt8 × Int) × Int × Int × Int × Int) : Option ((List (Int × List UInt8 × Int) × Int × Int × Int × Int) × XL) :=
  (c19 rf d1).bind fun (y1 : (List (Int × List UInt8 × Int) × Int × Int × Int × Int) × XL) =>
  (k26 rb y1.1 y1.2).bind fun (z2 : (List (Int × List UInt8 × Int) × Int × Int × Int × Int) × XL) =>
  some z2
theorem er18 (rf : T.RF) (rb : T.RB) (d1 : List (Int × List UInt8 × Int) × Int × Int × Int × Int) : T.stepF rf rb 18 d1 = r18 rf rb d1 := by kernel_rfl
theorem or18 {d1 : List (Int × List UInt8 × Int) × Int × Int × Int × Int} {y : ((List (Int × List UInt8 × Int) × Int × Int × Int × Int) × XL)} (h : r18 T.rf T.rb d1 = some y) : c18 T.rf d1 = some y := T.rf_of (f := 18) (d := d1) ((er18 T.rf T.rb d1).trans h)

/- (*bailment/bailmentref04.Reader).imp -/
noncomputable def r17 (rf : T.RF) (rb : T.RB) (d1 : List (Int × List UInt8 × Int) × Int × Int × Int × Int) : Option ((List (Int × List UInt8 × Int) × Int × Int × Int × Int) × XL) :=
  (c18 rf d1).bind fun (y1 : (List (Int × List UInt8 × Int) × Int × Int × Int × Int) × XL) =>
  (c35 rf y1.1 ([61, 62] : List UInt8)).bind fun (y2 : (List (Int × List UInt8 × Int) × Int × Int × Int × Int) × Bool) =>
  bif y2.2 then
    (c17 rf y2.1).bind fun (y3 : (List (Int × List UInt8 × Int) × Int × Int × Int × Int) × XL) =>
    (c42 rf y3.1 9 y1.2 y3.2).bind fun (y4 : (List (Int × List UInt8 × Int) × Int × Int × Int × Int) × XL) =>
    some y4
  else
    some (y2.1, y1.2)
theorem er17 (rf : T.RF) (rb : T.RB) (d1 : List (Int × List UInt8 × Int) × Int × Int × Int × Int) : T.stepF rf rb 17 d1 = r17 rf rb d1 := by kernel_rfl
theorem or17 {d1 : List (Int × List UInt8 × Int) × Int × Int × Int × Int} {y : ((List (Int × List UInt8 × Int) × Int × Int × Int × Int) × XL)} (h : r17 T.rf T.rb d1 = some y) : c17 T.rf d1 = some y := T.rf_of (f := 17) (d := d1) ((er17 T.rf T.rb d1).trans h)

/- (*bailment/bailmentref04.Reader).Arrow -/
noncomputable def r16 (rf : T.RF) (rb : T.RB) (d1 : List (Int × List UInt8 × Int) × Int × Int × Int × Int) : Option ((List (Int × List UInt8 × Int) × Int × Int × Int × Int) × XL) :=
  (c17 rf d1).bind fun (y1 : (List (Int × List UInt8 × Int) × Int × Int × Int × Int) × XL) =>
  (c35 rf y1.1 ([45, 62] : List UInt8)).bind fun (y2 : (List (Int × List UInt8 × Int) × Int × Int × Int × Int) × Bool) =>
  bif y2.2 then
    (c16 rf y2.1).bind fun (y3 : (List (Int × List UInt8 × Int) × Int × Int × Int × Int) × XL) =>
    (c42 rf y3.1 19 y1.2 y3.2).bind fun (y4 : (List (Int × List UInt8 × Int) × Int × Int × Int × Int) × XL) =>
    some y4
  else
    some (y2.1, y1.2)
theorem er16 (rf : T.RF) (rb : T.RB) (d1 : List (Int × List UInt8 × Int) × Int × Int × Int × Int) : T.stepF rf rb 16 d1 = r16 rf rb d1 := by kernel_rfl
theorem or16 {d1 : List (Int × List UInt8 × Int) × Int × Int × Int × Int} {y : ((List (Int × List UInt8 × Int) × Int × Int × Int × Int) × XL)} (h : r16 T.rf T.rb d1 = some y) : c16 T.rf d1 = some y := T.rf_of (f := 16) (d := d1) ((er16 T.rf T.rb d1).trans h)

/- bailmentref03.Depth loop 0 -/
noncomputable def b34 (rf : T.RF) (rb : T.RB) (d1 : List Int) (d2 : XL) (d3 : Int) : Option (List Int) :=
  bif decide (d3 < (((d2.length : Nat) : Int))) then
    bif inb d3 d1.length then
      bif Nat.blt d3.toNat d1.length then
        bif inb d3 d2.length then
          (nth d2 d3.toNat).bind fun (x1 : XN) =>
          (c30 rf x1).bind fun (y2 : List Int) =>
          (k35 rb (setNth d1 d3.toNat 1) y2 d3 0).bind fun (z3 : List Int × List Int) =>
          k34 rb z3.1 d2 (IntKind.i64.wrap (d3 + 1))
        else
          none
      else
        none
    else
      none
  else
    some d1
theorem eb34 (rf : T.RF) (rb : T.RB) (d1 : List Int) (d2 : XL) (d3 : Int) : T.stepB rf rb 34 (d1, d2, d3) = b34 rf rb d1 d2 d3 := by kernel_rfl
theorem ob34 {d1 : List Int} {d2 : XL} {d3 : Int} {y : (List Int)} (h : b34 T.rf T.rb d1 d2 d3 = some y) : k34 T.rb d1 d2 d3 = some y := T.rb_of (κ := 34) (d := (d1, d2, d3)) ((eb34 T.rf T.rb d1 d2 d3).trans h)

/- bailmentref03.Depth loop 2 -/
noncomputable def b35q (rf : T.RF) (rb : T.RB) (d1 : List Int) (d2 : List Int) (d3 : Int) (d4 : Int) : Option (List Int × List Int) :=
  bif decide (d4 < (((d2.length : Nat) : Int))) then
    bif inb d4 d2.length then
      (nth d2 d4.toNat).bind fun (x1 : Int) =>
      bif decide (x1 ≥ 0) then
        bif inb d4 d2.length then
          (nth d2 d4.toNat).bind fun (x2 : Int) =>
          bif decide (x2 < d3) then
            bif inb d3 d1.length then
              bif inb d4 d2.length then
                (nth d2 d4.toNat).bind fun (x3 : Int) =>
                bif inb x3 d1.length then
                  agree (
                    (nth d1 d3.toNat).bind fun (x4 : Int) =>
                    (nth d1 x3.toNat).bind fun (x5 : Int) =>
                    bif inb d3 d1.length then
                      bif Nat.blt d3.toNat d1.length then
                        k35 rb (setNth d1 d3.toNat (if (IntKind.i64.wrap (x5 + 1)) > x4 then (IntKind.i64.wrap (x5 + 1)) else x4)) d2 d3 (IntKind.i64.wrap (d4 + 1))
                      else
                        none
                    else
                      none
                  ) (
                    (nth d1 x3.toNat).bind fun (x4 : Int) =>
                    (nth d1 d3.toNat).bind fun (x5 : Int) =>
                    bif inb d3 d1.length then
                      bif Nat.blt d3.toNat d1.length then
                        k35 rb (setNth d1 d3.toNat (if (IntKind.i64.wrap (x4 + 1)) > x5 then (IntKind.i64.wrap (x4 + 1)) else x5)) d2 d3 (IntKind.i64.wrap (d4 + 1))
                      else
                        none
                    else
                      none
                  )
                else
                  none
              else
                none
            else
              none
          else
            k35 rb d1 d2 d3 (IntKind.i64.wrap (d4 + 1))
        else
          none
      else
        k35 rb d1 d2 d3 (IntKind.i64.wrap (d4 + 1))
    else
      none
  else
    some (d1, d2)
noncomputable def b35 (rf : T.RF) (rb : T.RB) (d1 : List Int) (d2 : List Int) (d3 : Int) (d4 : Int) : Option (List Int × List Int) :=
  bif decide (d4 < (((d2.length : Nat) : Int))) then
    bif inb d4 d2.length then
      (nth d2 d4.toNat).bind fun (x1 : Int) =>
      bif decide (x1 ≥ 0) then
        bif inb d4 d2.length then
          (nth d2 d4.toNat).bind fun (x2 : Int) =>
          bif decide (x2 < d3) then
            bif inb d3 d1.length then
              bif inb d4 d2.length then
                (nth d2 d4.toNat).bind fun (x3 : Int) =>
                bif inb x3 d1.length then
                  (nth d1 d3.toNat).bind fun (x4 : Int) =>
                  (nth d1 x3.toNat).bind fun (x5 : Int) =>
                  bif inb d3 d1.length then
                    bif Nat.blt d3.toNat d1.length then
                      k35 rb (setNth d1 d3.toNat (if (IntKind.i64.wrap (x5 + 1)) > x4 then (IntKind.i64.wrap (x5 + 1)) else x4)) d2 d3 (IntKind.i64.wrap (d4 + 1))
                    else
                      none
                  else
                    none
                else
                  none
              else
                none
            else
              none
          else
            k35 rb d1 d2 d3 (IntKind.i64.wrap (d4 + 1))
        else
          none
      else
        k35 rb d1 d2 d3 (IntKind.i64.wrap (d4 + 1))
    else
      none
  else
    some (d1, d2)
theorem eb35 (rf : T.RF) (rb : T.RB) (d1 : List Int) (d2 : List Int) (d3 : Int) (d4 : Int) : T.stepB rf rb 35 (d1, d2, d3, d4) = b35q rf rb d1 d2 d3 d4 := by kernel_rfl
theorem sb35 (rf : T.RF) (rb : T.RB) (d1 : List Int) (d2 : List Int) (d3 : Int) (d4 : Int) : b35q rf rb d1 d2 d3 d4 = b35 rf rb d1 d2 d3 d4 := by
  unfold b35q b35; simp only [agN_eq, agree_self, agree_swap]
theorem ob35 {d1 : List Int} {d2 : List Int} {d3 : Int} {d4 : Int} {y : (List Int × List Int)} (h : b35 T.rf T.rb d1 d2 d3 d4 = some y) : k35 T.rb d1 d2 d3 d4 = some y := T.rb_of (κ := 35) (d := (d1, d2, d3, d4)) (((eb35 T.rf T.rb d1 d2 d3 d4).trans (sb35 T.rf T.rb d1 d2 d3 d4)).trans h)

/- bailmentref03.Depth -/
noncomputable def r43 (rf : T.RF) (rb : T.RB) (d1 : XL) : Option Int :=
  bif inb' (((d1.length : Nat) : Int)) most then
    bif inb' (((d1.length : Nat) : Int)) d1.length then
      (k34 rb (List.replicate d1.length 0) d1 0).bind fun (z1 : List Int) =>
      bif (((d1.length : Nat) : Int)) == 0 then
        some 0
      else
      bif inb (IntKind.i64.wrap ((((d1.length : Nat) : Int)) - 1)) z1.length then
        (nth z1 (IntKind.i64.wrap ((((d1.length : Nat) : Int)) - 1)).toNat).bind fun (x2 : Int) =>
        some x2
      else
        none
    else
      none
  else
    none
theorem er43 (rf : T.RF) (rb : T.RB) (d1 : XL) : T.stepF rf rb 43 d1 = r43 rf rb d1 := by kernel_rfl
theorem or43 {d1 : XL} {y : Int} (h : r43 T.rf T.rb d1 = some y) : c43 T.rf d1 = some y := T.rf_of (f := 43) (d := d1) ((er43 T.rf T.rb d1).trans h)

/- bailmentref04.Parse tail 3 -/
noncomputable def b37 (rf : T.RF) (rb : T.RB) (d1 : Int × Int) (d2 : List (Int × List UInt8 × Int)) (d3 : Int) : Option (((Int × Int) × XL × Int) ⊕ ((Int × Int) × XL × Int)) :=
  (c16 rf (d2, d3, 0, 0, 0)).bind fun (y1 : (List (Int × List UInt8 × Int) × Int × Int × Int × Int) × XL) =>
  bif y1.1.2.2.2.1 != 0 then
    some (.inl (y1.1.2.2.2, [], 0))
  else
  bif decide ((((y1.2.length : Nat) : Int)) > 5000) then
    (c26 rf d2 d3).bind fun (y2 : Int) =>
    some (.inl ((7, y2), [], 0))
  else
    (c43 rf y1.2).bind fun (y3 : Int) =>
    bif decide (y3 > 40) then
      (c26 rf d2 d3).bind fun (y4 : Int) =>
      some (.inl ((6, y4), [], 0))
    else
      some (.inr ((0, 0), y1.2, y1.1.2.1))
theorem eb37 (rf : T.RF) (rb : T.RB) (d1 : Int × Int) (d2 : List (Int × List UInt8 × Int)) (d3 : Int) : T.stepB rf rb 37 (d1, d2, d3) = b37 rf rb d1 d2 d3 := by kernel_rfl
theorem ob37 {d1 : Int × Int} {d2 : List (Int × List UInt8 × Int)} {d3 : Int} {y : (((Int × Int) × XL × Int) ⊕ ((Int × Int) × XL × Int))} (h : b37 T.rf T.rb d1 d2 d3 = some y) : k37 T.rb d1 d2 d3 = some y := T.rb_of (κ := 37) (d := (d1, d2, d3)) ((eb37 T.rf T.rb d1 d2 d3).trans h)

/- bailmentref04.Parse -/
noncomputable def r15 (rf : T.RF) (rb : T.RB) (d1 : List (Int × List UInt8 × Int)) (d2 : Int) : Option (XL × Int × Int × Int) :=
  bif decide (d2 < 0) then
    (k37 rb (0, 0) d1 (((d1.length : Nat) : Int))).bind fun (z1 : ((Int × Int) × XL × Int) ⊕ ((Int × Int) × XL × Int)) =>
    match z1 with
    | .inl u2 =>
      some (u2.2.1, u2.2.2, u2.1)
    | .inr w3 =>
      some (w3.2.1, w3.2.2, w3.1)
  else
  bif decide (d2 > (((d1.length : Nat) : Int))) then
    (k37 rb (0, 0) d1 (((d1.length : Nat) : Int))).bind fun (z4 : ((Int × Int) × XL × Int) ⊕ ((Int × Int) × XL × Int)) =>
    match z4 with
    | .inl u5 =>
      some (u5.2.1, u5.2.2, u5.1)
    | .inr w6 =>
      some (w6.2.1, w6.2.2, w6.1)
  else
    (k37 rb (0, 0) d1 d2).bind fun (z7 : ((Int × Int) × XL × Int) ⊕ ((Int × Int) × XL × Int)) =>
    match z7 with
    | .inl u8 =>
      some (u8.2.1, u8.2.2, u8.1)
    | .inr w9 =>
      some (w9.2.1, w9.2.2, w9.1)
theorem er15 (rf : T.RF) (rb : T.RB) (d1 : List (Int × List UInt8 × Int)) (d2 : Int) : T.stepF rf rb 15 (d1, d2) = r15 rf rb d1 d2 := by kernel_rfl
theorem or15 {d1 : List (Int × List UInt8 × Int)} {d2 : Int} {y : (XL × Int × Int × Int)} (h : r15 T.rf T.rb d1 d2 = some y) : c15 T.rf d1 d2 = some y := T.rf_of (f := 15) (d := (d1, d2)) ((er15 T.rf T.rb d1 d2).trans h)

/- bailmentref04.Read -/
noncomputable def r3 (rf : T.RF) (rb : T.RB) (d1 : List UInt8) : Option (XL × Int × Int) :=
  (c4 rf d1).bind fun (y1 : List (Int × List UInt8 × Int) × Int × Int) =>
  bif y1.2.1 != 0 then
    some ([], y1.2)
  else
    (c15 rf y1.1 0).bind fun (y2 : XL × Int × Int × Int) =>
    bif y2.2.2.1 != 0 then
      some ([], y2.2.2)
    else
    bif decide (y2.2.1 < (((y1.1.length : Nat) : Int))) then
      bif inb y2.2.1 y1.1.length then
        (nth y1.1 y2.2.1.toNat).bind fun (x3 : Int × List UInt8 × Int) =>
        some ([], 5, x3.2.2)
      else
        none
    else
      some (y2.1, 0, 0)
theorem er3 (rf : T.RF) (rb : T.RB) (d1 : List UInt8) : T.stepF rf rb 3 d1 = r3 rf rb d1 := by kernel_rfl
theorem or3 {d1 : List UInt8} {y : (XL × Int × Int)} (h : r3 T.rf T.rb d1 = some y) : c3 T.rf d1 = some y := T.rf_of (f := 3) (d := d1) ((er3 T.rf T.rb d1).trans h)

/- bailmentlaw09.read -/
noncomputable def r2 (rf : T.RF) (rb : T.RB) (d1 : List UInt8) : Option XL :=
  (c3 rf d1).bind fun (y1 : XL × Int × Int) =>
  some y1.1
theorem er2 (rf : T.RF) (rb : T.RB) (d1 : List UInt8) : T.stepF rf rb 2 d1 = r2 rf rb d1 := by kernel_rfl
theorem or2 {d1 : List UInt8} {y : XL} (h : r2 T.rf T.rb d1 = some y) : c2 T.rf d1 = some y := T.rf_of (f := 2) (d := d1) ((er2 T.rf T.rb d1).trans h)

/- tree.Kids -/
noncomputable def r47 (rf : T.RF) (rb : T.RB) (d1 : XN) : Option (List Int) :=
  bif d1.1 == 26 then
    some [d1.2.1, d1.2.2.1, d1.2.2.2.1]
  else
  bif d1.1 == 28 then
    bif d1.2.2.1 != (-1) then
      some [d1.2.2.1, d1.2.1]
    else
    bif d1.1 == 27 then
      bif d1.2.1 == (-1) then
        some []
      else
      bif decide (d1.1 ≥ 6) then
        bif decide (d1.1 ≤ 20) then
          some [d1.2.1, d1.2.2.1]
        else
        bif d1.1 == 4 then
          some [d1.2.1]
        else
        bif d1.1 == 5 then
          some [d1.2.1]
        else
        bif decide (d1.1 ≥ 21) then
          bif decide (d1.1 ≤ 28) then
            some [d1.2.1]
          else
            some []
        else
          some []
      else
      bif d1.1 == 4 then
        some [d1.2.1]
      else
      bif d1.1 == 5 then
        some [d1.2.1]
      else
      bif decide (d1.1 ≥ 21) then
        bif decide (d1.1 ≤ 28) then
          some [d1.2.1]
        else
          some []
      else
        some []
    else
    bif decide (d1.1 ≥ 6) then
      bif decide (d1.1 ≤ 20) then
        some [d1.2.1, d1.2.2.1]
      else
      bif d1.1 == 4 then
        some [d1.2.1]
      else
      bif d1.1 == 5 then
        some [d1.2.1]
      else
      bif decide (d1.1 ≥ 21) then
        bif decide (d1.1 ≤ 28) then
          some [d1.2.1]
        else
          some []
      else
        some []
    else
    bif d1.1 == 4 then
      some [d1.2.1]
    else
    bif d1.1 == 5 then
      some [d1.2.1]
    else
    bif decide (d1.1 ≥ 21) then
      bif decide (d1.1 ≤ 28) then
        some [d1.2.1]
      else
        some []
    else
      some []
  else
  bif d1.1 == 27 then
    bif d1.2.1 == (-1) then
      some []
    else
    bif decide (d1.1 ≥ 6) then
      bif decide (d1.1 ≤ 20) then
        some [d1.2.1, d1.2.2.1]
      else
      bif d1.1 == 4 then
        some [d1.2.1]
      else
      bif d1.1 == 5 then
        some [d1.2.1]
      else
      bif decide (d1.1 ≥ 21) then
        bif decide (d1.1 ≤ 28) then
          some [d1.2.1]
        else
          some []
      else
        some []
    else
    bif d1.1 == 4 then
      some [d1.2.1]
    else
    bif d1.1 == 5 then
      some [d1.2.1]
    else
    bif decide (d1.1 ≥ 21) then
      bif decide (d1.1 ≤ 28) then
        some [d1.2.1]
      else
        some []
    else
      some []
  else
  bif decide (d1.1 ≥ 6) then
    bif decide (d1.1 ≤ 20) then
      some [d1.2.1, d1.2.2.1]
    else
    bif d1.1 == 4 then
      some [d1.2.1]
    else
    bif d1.1 == 5 then
      some [d1.2.1]
    else
    bif decide (d1.1 ≥ 21) then
      bif decide (d1.1 ≤ 28) then
        some [d1.2.1]
      else
        some []
    else
      some []
  else
  bif d1.1 == 4 then
    some [d1.2.1]
  else
  bif d1.1 == 5 then
    some [d1.2.1]
  else
  bif decide (d1.1 ≥ 21) then
    bif decide (d1.1 ≤ 28) then
      some [d1.2.1]
    else
      some []
  else
    some []
theorem er47 (rf : T.RF) (rb : T.RB) (d1 : XN) : T.stepF rf rb 47 d1 = r47 rf rb d1 := by kernel_rfl
theorem or47 {d1 : XN} {y : (List Int)} (h : r47 T.rf T.rb d1 = some y) : c47 T.rf d1 = some y := T.rf_of (f := 47) (d := d1) ((er47 T.rf T.rb d1).trans h)

/- tree.with -/
noncomputable def r48 (rf : T.RF) (rb : T.RB) (d1 : XN) (d2 : List Int) : Option XN :=
  bif d1.1 == 28 then
    bif (((d2.length : Nat) : Int)) == 2 then
      bif inb 0 d2.length then
        (nth d2 0).bind fun (x1 : Int) =>
        bif inb 1 d2.length then
          (nth d2 1).bind fun (x2 : Int) =>
          some (d1.1, x2, x1, d1.2.2.2)
        else
          none
      else
        none
    else
    bif decide (0 < (((d2.length : Nat) : Int))) then
      bif inb 0 d2.length then
        (nth d2 0).bind fun (x3 : Int) =>
        bif decide (1 < (((d2.length : Nat) : Int))) then
          bif inb 1 d2.length then
            (nth d2 1).bind fun (x4 : Int) =>
            bif decide (2 < (((d2.length : Nat) : Int))) then
              bif inb 2 d2.length then
                (nth d2 2).bind fun (x5 : Int) =>
                some (d1.1, x3, x4, x5, d1.2.2.2.2)
              else
                none
            else
              some (d1.1, x3, x4, d1.2.2.2)
          else
            none
        else
        bif decide (2 < (((d2.length : Nat) : Int))) then
          bif inb 2 d2.length then
            (nth d2 2).bind fun (x6 : Int) =>
            some (d1.1, x3, d1.2.2.1, x6, d1.2.2.2.2)
          else
            none
        else
          some (d1.1, x3, d1.2.2)
      else
        none
    else
    bif decide (1 < (((d2.length : Nat) : Int))) then
      bif inb 1 d2.length then
        (nth d2 1).bind fun (x7 : Int) =>
        bif decide (2 < (((d2.length : Nat) : Int))) then
          bif inb 2 d2.length then
            (nth d2 2).bind fun (x8 : Int) =>
            some (d1.1, d1.2.1, x7, x8, d1.2.2.2.2)
          else
            none
        else
          some (d1.1, d1.2.1, x7, d1.2.2.2)
      else
        none
    else
    bif decide (2 < (((d2.length : Nat) : Int))) then
      bif inb 2 d2.length then
        (nth d2 2).bind fun (x9 : Int) =>
        some (d1.1, d1.2.1, d1.2.2.1, x9, d1.2.2.2.2)
      else
        none
    else
      some d1
  else
  bif decide (0 < (((d2.length : Nat) : Int))) then
    bif inb 0 d2.length then
      (nth d2 0).bind fun (x10 : Int) =>
      bif decide (1 < (((d2.length : Nat) : Int))) then
        bif inb 1 d2.length then
          (nth d2 1).bind fun (x11 : Int) =>
          bif decide (2 < (((d2.length : Nat) : Int))) then
            bif inb 2 d2.length then
              (nth d2 2).bind fun (x12 : Int) =>
              some (d1.1, x10, x11, x12, d1.2.2.2.2)
            else
              none
          else
            some (d1.1, x10, x11, d1.2.2.2)
        else
          none
      else
      bif decide (2 < (((d2.length : Nat) : Int))) then
        bif inb 2 d2.length then
          (nth d2 2).bind fun (x13 : Int) =>
          some (d1.1, x10, d1.2.2.1, x13, d1.2.2.2.2)
        else
          none
      else
        some (d1.1, x10, d1.2.2)
    else
      none
  else
  bif decide (1 < (((d2.length : Nat) : Int))) then
    bif inb 1 d2.length then
      (nth d2 1).bind fun (x14 : Int) =>
      bif decide (2 < (((d2.length : Nat) : Int))) then
        bif inb 2 d2.length then
          (nth d2 2).bind fun (x15 : Int) =>
          some (d1.1, d1.2.1, x14, x15, d1.2.2.2.2)
        else
          none
      else
        some (d1.1, d1.2.1, x14, d1.2.2.2)
    else
      none
  else
  bif decide (2 < (((d2.length : Nat) : Int))) then
    bif inb 2 d2.length then
      (nth d2 2).bind fun (x16 : Int) =>
      some (d1.1, d1.2.1, d1.2.2.1, x16, d1.2.2.2.2)
    else
      none
  else
    some d1
theorem er48 (rf : T.RF) (rb : T.RB) (d1 : XN) (d2 : List Int) : T.stepF rf rb 48 (d1, d2) = r48 rf rb d1 d2 := by kernel_rfl
theorem or48 {d1 : XN} {d2 : List Int} {y : XN} (h : r48 T.rf T.rb d1 d2 = some y) : c48 T.rf d1 d2 = some y := T.rf_of (f := 48) (d := (d1, d2)) ((er48 T.rf T.rb d1 d2).trans h)

/- tree.isNode tail 9 -/
noncomputable def b39q (rf : T.RF) (rb : T.RB) (d1 : XN) (d2 : Int) : Option (XN × Bool) :=
  agree (
    (c47 rf d1).bind fun (y1 : List Int) =>
    agN 1 (
      (c48 rf (d1.1, (-1), (-1), (-1), d1.2.2.2.2) y1).bind fun (y2 : XN) =>
      (k40 rb d1 y2 d2).bind fun (z3 : XN × XN × Bool) =>
      some (z3.1, z3.2.2)
    )
  ) (
    (c47 rf d1).bind fun (y1 : List Int) =>
    (c48 rf (d1.1, (-1), (-1), (-1), d1.2.2.2.2) y1).bind fun (y2 : XN) =>
    (k40 rb d1 y2 d2).bind fun (z3 : XN × XN × Bool) =>
    some (z3.1, z3.2.2)
  )
noncomputable def b39 (rf : T.RF) (rb : T.RB) (d1 : XN) (d2 : Int) : Option (XN × Bool) :=
  (c47 rf d1).bind fun (y1 : List Int) =>
  (c48 rf (d1.1, (-1), (-1), (-1), d1.2.2.2.2) y1).bind fun (y2 : XN) =>
  (k40 rb d1 y2 d2).bind fun (z3 : XN × XN × Bool) =>
  some (z3.1, z3.2.2)
theorem eb39 (rf : T.RF) (rb : T.RB) (d1 : XN) (d2 : Int) : T.stepB rf rb 39 (d1, d2) = b39q rf rb d1 d2 := by kernel_rfl
theorem sb39 (rf : T.RF) (rb : T.RB) (d1 : XN) (d2 : Int) : b39q rf rb d1 d2 = b39 rf rb d1 d2 := by
  unfold b39q b39; simp only [agN_eq, agree_self, agree_swap]
theorem ob39 {d1 : XN} {d2 : Int} {y : (XN × Bool)} (h : b39 T.rf T.rb d1 d2 = some y) : k39 T.rb d1 d2 = some y := T.rb_of (κ := 39) (d := (d1, d2)) (((eb39 T.rf T.rb d1 d2).trans (sb39 T.rf T.rb d1 d2)).trans h)

/- tree.isNode tail 10 -/
noncomputable def b40 (rf : T.RF) (rb : T.RB) (d1 : XN) (d2 : XN) (d3 : Int) : Option (XN × XN × Bool) :=
  bif d1.1 == 3 then
    bif decide (d1.1 ≥ 1) then
      bif decide (d1.1 ≤ 28) then
        bif (d1.1 == d2.1) && ((d1.2.1 == d2.2.1) && ((d1.2.2.1 == d2.2.2.1) && ((d1.2.2.2.1 == d2.2.2.2.1) && ((d1.2.2.2.2.1 == d2.2.2.2.2.1) && (d1.2.2.2.2.2 == d2.2.2.2.2.2))))) then
          bif decide (d1.2.2.2.2.1 ≥ 0) then
            bif decide (d1.2.2.2.2.1 ≤ d3) then
              some (d1, d2, (!(d1.2.2.2.2.2 == ([] : List UInt8))) == true)
            else
              some (d1, d2, false)
          else
            some (d1, d2, false)
        else
          some (d1, d2, false)
      else
        some (d1, d2, false)
    else
      some (d1, d2, false)
  else
  bif decide (d1.1 ≥ 1) then
    bif decide (d1.1 ≤ 28) then
      bif (d1.1 == d2.1) && ((d1.2.1 == d2.2.1) && ((d1.2.2.1 == d2.2.2.1) && ((d1.2.2.2.1 == d2.2.2.2.1) && ((d1.2.2.2.2.1 == d2.2.2.2.2.1) && (d1.2.2.2.2.2 == d2.2.2.2.2.2))))) then
        bif decide (d1.2.2.2.2.1 ≥ 0) then
          bif decide (d1.2.2.2.2.1 ≤ d3) then
            some (d1, d2, (!(d1.2.2.2.2.2 == ([] : List UInt8))) == (d1.1 == 27))
          else
            some (d1, d2, false)
        else
          some (d1, d2, false)
      else
        some (d1, d2, false)
    else
      some (d1, d2, false)
  else
    some (d1, d2, false)
theorem eb40 (rf : T.RF) (rb : T.RB) (d1 : XN) (d2 : XN) (d3 : Int) : T.stepB rf rb 40 (d1, d2, d3) = b40 rf rb d1 d2 d3 := by kernel_rfl
theorem ob40 {d1 : XN} {d2 : XN} {d3 : Int} {y : (XN × XN × Bool)} (h : b40 T.rf T.rb d1 d2 d3 = some y) : k40 T.rb d1 d2 d3 = some y := T.rb_of (κ := 40) (d := (d1, d2, d3)) ((eb40 T.rf T.rb d1 d2 d3).trans h)

/- tree.isNode -/
noncomputable def r46 (rf : T.RF) (rb : T.RB) (d1 : XN) : Option Bool :=
  bif d1.1 == 1 then
    (k39 rb d1 2147483647).bind fun (z1 : XN × Bool) =>
    some z1.2
  else
  bif d1.1 == 2 then
    (k39 rb d1 1).bind fun (z2 : XN × Bool) =>
    some z2.2
  else
  bif d1.1 == 25 then
    (k39 rb d1 1000).bind fun (z3 : XN × Bool) =>
    some z3.2
  else
    (k39 rb d1 0).bind fun (z4 : XN × Bool) =>
    some z4.2
theorem er46 (rf : T.RF) (rb : T.RB) (d1 : XN) : T.stepF rf rb 46 d1 = r46 rf rb d1 := by kernel_rfl
theorem or46 {d1 : XN} {y : Bool} (h : r46 T.rf T.rb d1 = some y) : c46 T.rf d1 = some y := T.rf_of (f := 46) (d := d1) ((er46 T.rf T.rb d1).trans h)

/- slices.Index[[]bool,bool] loop 0 -/
noncomputable def b42 (rf : T.RF) (rb : T.RB) (d1 : List Bool) (d2 : Bool) (d3 : Int) (d4 : Int) : Option (Int ⊕ Unit) :=
  bif decide (d4 < d3) then
    bif inb d4 d1.length then
      (nth d1 d4.toNat).bind fun (x1 : Bool) =>
      bif d2 == x1 then
        some (.inl d4)
      else
        k42 rb d1 d2 d3 (IntKind.i64.wrap (d4 + 1))
    else
      none
  else
    some (.inr ())
theorem eb42 (rf : T.RF) (rb : T.RB) (d1 : List Bool) (d2 : Bool) (d3 : Int) (d4 : Int) : T.stepB rf rb 42 (d1, d2, d3, d4) = b42 rf rb d1 d2 d3 d4 := by kernel_rfl
theorem ob42 {d1 : List Bool} {d2 : Bool} {d3 : Int} {d4 : Int} {y : (Int ⊕ Unit)} (h : b42 T.rf T.rb d1 d2 d3 d4 = some y) : k42 T.rb d1 d2 d3 d4 = some y := T.rb_of (κ := 42) (d := (d1, d2, d3, d4)) ((eb42 T.rf T.rb d1 d2 d3 d4).trans h)

/- slices.Index[[]bool,bool] -/
noncomputable def r50 (rf : T.RF) (rb : T.RB) (d1 : List Bool) (d2 : Bool) : Option Int :=
  (k42 rb d1 d2 (((d1.length : Nat) : Int)) 0).bind fun (z1 : Int ⊕ Unit) =>
  match z1 with
  | .inl u2 =>
    some u2
  | .inr w3 =>
    some (-1)
theorem er50 (rf : T.RF) (rb : T.RB) (d1 : List Bool) (d2 : Bool) : T.stepF rf rb 50 (d1, d2) = r50 rf rb d1 d2 := by kernel_rfl
theorem or50 {d1 : List Bool} {d2 : Bool} {y : Int} (h : r50 T.rf T.rb d1 d2 = some y) : c50 T.rf d1 d2 = some y := T.rf_of (f := 50) (d := (d1, d2)) ((er50 T.rf T.rb d1 d2).trans h)

/- slices.Contains[[]bool,bool] -/
noncomputable def r49 (rf : T.RF) (rb : T.RB) (d1 : List Bool) (d2 : Bool) : Option Bool :=
  (c50 rf d1 d2).bind fun (y1 : Int) =>
  some (decide (y1 ≥ 0))
theorem er49 (rf : T.RF) (rb : T.RB) (d1 : List Bool) (d2 : Bool) : T.stepF rf rb 49 (d1, d2) = r49 rf rb d1 d2 := by kernel_rfl
theorem or49 {d1 : List Bool} {d2 : Bool} {y : Bool} (h : r49 T.rf T.rb d1 d2 = some y) : c49 T.rf d1 d2 = some y := T.rf_of (f := 49) (d := (d1, d2)) ((er49 T.rf T.rb d1 d2).trans h)

/- tree.depths loop 0 -/
noncomputable def b49 (rf : T.RF) (rb : T.RB) (d1 : List Int) (d2 : XL) (d3 : Int) (d4 : Int) : Option (List Int) :=
  bif decide (d4 < d3) then
    bif inb d4 d2.length then
      (nth d2 d4.toNat).bind fun (x1 : XN) =>
      (c47 rf x1).bind fun (y2 : List Int) =>
      (k50 rb d1 y2 d4 (((y2.length : Nat) : Int)) 0).bind fun (z3 : List Int × List Int) =>
      bif inb d4 z3.1.length then
        (nth z3.1 d4.toNat).bind fun (x4 : Int) =>
        bif inb d4 z3.1.length then
          bif Nat.blt d4.toNat z3.1.length then
            k49 rb (setNth z3.1 d4.toNat (IntKind.i64.wrap (x4 + 1))) d2 d3 (IntKind.i64.wrap (d4 + 1))
          else
            none
        else
          none
      else
        none
    else
      none
  else
    some d1
theorem eb49 (rf : T.RF) (rb : T.RB) (d1 : List Int) (d2 : XL) (d3 : Int) (d4 : Int) : T.stepB rf rb 49 (d1, d2, d3, d4) = b49 rf rb d1 d2 d3 d4 := by kernel_rfl
theorem ob49 {d1 : List Int} {d2 : XL} {d3 : Int} {d4 : Int} {y : (List Int)} (h : b49 T.rf T.rb d1 d2 d3 d4 = some y) : k49 T.rb d1 d2 d3 d4 = some y := T.rb_of (κ := 49) (d := (d1, d2, d3, d4)) ((eb49 T.rf T.rb d1 d2 d3 d4).trans h)

/- tree.depths loop 2 -/
noncomputable def b50q (rf : T.RF) (rb : T.RB) (d1 : List Int) (d2 : List Int) (d3 : Int) (d4 : Int) (d5 : Int) : Option (List Int × List Int) :=
  bif decide (d5 < d4) then
    bif inb d5 d2.length then
      (nth d2 d5.toNat).bind fun (x1 : Int) =>
      bif decide (x1 ≥ 0) then
        bif decide (x1 < d3) then
          bif inb d3 d1.length then
            bif inb x1 d1.length then
              agree (
                (nth d1 d3.toNat).bind fun (x2 : Int) =>
                (nth d1 x1.toNat).bind fun (x3 : Int) =>
                bif inb d3 d1.length then
                  bif Nat.blt d3.toNat d1.length then
                    k50 rb (setNth d1 d3.toNat (if x3 > x2 then x3 else x2)) d2 d3 d4 (IntKind.i64.wrap (d5 + 1))
                  else
                    none
                else
                  none
              ) (
                (nth d1 x1.toNat).bind fun (x2 : Int) =>
                (nth d1 d3.toNat).bind fun (x3 : Int) =>
                bif inb d3 d1.length then
                  bif Nat.blt d3.toNat d1.length then
                    k50 rb (setNth d1 d3.toNat (if x2 > x3 then x2 else x3)) d2 d3 d4 (IntKind.i64.wrap (d5 + 1))
                  else
                    none
                else
                  none
              )
            else
              none
          else
            none
        else
          k50 rb d1 d2 d3 d4 (IntKind.i64.wrap (d5 + 1))
      else
        k50 rb d1 d2 d3 d4 (IntKind.i64.wrap (d5 + 1))
    else
      none
  else
    some (d1, d2)
noncomputable def b50 (rf : T.RF) (rb : T.RB) (d1 : List Int) (d2 : List Int) (d3 : Int) (d4 : Int) (d5 : Int) : Option (List Int × List Int) :=
  bif decide (d5 < d4) then
    bif inb d5 d2.length then
      (nth d2 d5.toNat).bind fun (x1 : Int) =>
      bif decide (x1 ≥ 0) then
        bif decide (x1 < d3) then
          bif inb d3 d1.length then
            bif inb x1 d1.length then
              (nth d1 d3.toNat).bind fun (x2 : Int) =>
              (nth d1 x1.toNat).bind fun (x3 : Int) =>
              bif inb d3 d1.length then
                bif Nat.blt d3.toNat d1.length then
                  k50 rb (setNth d1 d3.toNat (if x3 > x2 then x3 else x2)) d2 d3 d4 (IntKind.i64.wrap (d5 + 1))
                else
                  none
              else
                none
            else
              none
          else
            none
        else
          k50 rb d1 d2 d3 d4 (IntKind.i64.wrap (d5 + 1))
      else
        k50 rb d1 d2 d3 d4 (IntKind.i64.wrap (d5 + 1))
    else
      none
  else
    some (d1, d2)
theorem eb50 (rf : T.RF) (rb : T.RB) (d1 : List Int) (d2 : List Int) (d3 : Int) (d4 : Int) (d5 : Int) : T.stepB rf rb 50 (d1, d2, d3, d4, d5) = b50q rf rb d1 d2 d3 d4 d5 := by kernel_rfl
theorem sb50 (rf : T.RF) (rb : T.RB) (d1 : List Int) (d2 : List Int) (d3 : Int) (d4 : Int) (d5 : Int) : b50q rf rb d1 d2 d3 d4 d5 = b50 rf rb d1 d2 d3 d4 d5 := by
  unfold b50q b50; simp only [agN_eq, agree_self, agree_swap]
theorem ob50 {d1 : List Int} {d2 : List Int} {d3 : Int} {d4 : Int} {d5 : Int} {y : (List Int × List Int)} (h : b50 T.rf T.rb d1 d2 d3 d4 d5 = some y) : k50 T.rb d1 d2 d3 d4 d5 = some y := T.rb_of (κ := 50) (d := (d1, d2, d3, d4, d5)) (((eb50 T.rf T.rb d1 d2 d3 d4 d5).trans (sb50 T.rf T.rb d1 d2 d3 d4 d5)).trans h)

/- tree.depths -/
noncomputable def r52 (rf : T.RF) (rb : T.RB) (d1 : XL) : Option (List Int) :=
  bif inb' (((d1.length : Nat) : Int)) most then
    bif inb' (((d1.length : Nat) : Int)) d1.length then
      (k49 rb (List.replicate d1.length 0) d1 (((d1.length : Nat) : Int)) 0).bind fun (z1 : List Int) =>
      some z1
    else
      none
  else
    none
theorem er52 (rf : T.RF) (rb : T.RB) (d1 : XL) : T.stepF rf rb 52 d1 = r52 rf rb d1 := by kernel_rfl
theorem or52 {d1 : XL} {y : (List Int)} (h : r52 T.rf T.rb d1 = some y) : c52 T.rf d1 = some y := T.rf_of (f := 52) (d := d1) ((er52 T.rf T.rb d1).trans h)

/- tree.Depth -/
noncomputable def r51 (rf : T.RF) (rb : T.RB) (d1 : XL) : Option Int :=
  bif (((d1.length : Nat) : Int)) == 0 then
    some 0
  else
    (c52 rf d1).bind fun (y1 : List Int) =>
    bif inb (IntKind.i64.wrap ((((d1.length : Nat) : Int)) - 1)) y1.length then
      (nth y1 (IntKind.i64.wrap ((((d1.length : Nat) : Int)) - 1)).toNat).bind fun (x2 : Int) =>
      some x2
    else
      none
theorem er51 (rf : T.RF) (rb : T.RB) (d1 : XL) : T.stepF rf rb 51 d1 = r51 rf rb d1 := by kernel_rfl
theorem or51 {d1 : XL} {y : Int} (h : r51 T.rf T.rb d1 = some y) : c51 T.rf d1 = some y := T.rf_of (f := 51) (d := d1) ((er51 T.rf T.rb d1).trans h)

/- tree.May loop 0 -/
noncomputable def b38 (rf : T.RF) (rb : T.RB) (d1 : List Bool) (d2 : XL) (d3 : XL) (d4 : Int) (d5 : Int) : Option ((List Bool × Bool) ⊕ (List Bool)) :=
  bif decide (d5 < d4) then
    bif inb d5 d3.length then
      (nth d3 d5.toNat).bind fun (x1 : XN) =>
      (c46 rf x1).bind fun (y2 : Bool) =>
      bif !y2 then
        some (.inl (d1, false))
      else
        (c47 rf x1).bind fun (y3 : List Int) =>
        (k41 rb d1 x1 y3 d2 d5 (((y3.length : Nat) : Int)) 0).bind fun (z4 : (List Bool × XN × List Int × Bool) ⊕ (List Bool × XN × List Int)) =>
        match z4 with
        | .inl u5 =>
          some (.inl (u5.1, u5.2.2.2))
        | .inr w6 =>
          k38 rb w6.1 d2 d3 d4 (IntKind.i64.wrap (d5 + 1))
    else
      none
  else
    some (.inr d1)
theorem eb38 (rf : T.RF) (rb : T.RB) (d1 : List Bool) (d2 : XL) (d3 : XL) (d4 : Int) (d5 : Int) : T.stepB rf rb 38 (d1, d2, d3, d4, d5) = b38 rf rb d1 d2 d3 d4 d5 := by kernel_rfl
theorem ob38 {d1 : List Bool} {d2 : XL} {d3 : XL} {d4 : Int} {d5 : Int} {y : ((List Bool × Bool) ⊕ (List Bool))} (h : b38 T.rf T.rb d1 d2 d3 d4 d5 = some y) : k38 T.rb d1 d2 d3 d4 d5 = some y := T.rb_of (κ := 38) (d := (d1, d2, d3, d4, d5)) ((eb38 T.rf T.rb d1 d2 d3 d4 d5).trans h)

/- tree.May loop 2 -/
noncomputable def b41 (rf : T.RF) (rb : T.RB) (d1 : List Bool) (d2 : XN) (d3 : List Int) (d4 : XL) (d5 : Int) (d6 : Int) (d7 : Int) : Option ((List Bool × XN × List Int × Bool) ⊕ (List Bool × XN × List Int)) :=
  bif decide (d7 < d6) then
    bif inb d7 d3.length then
      (nth d3 d7.toNat).bind fun (x1 : Int) =>
      bif decide (x1 < 0) then
        some (.inl (d1, d2, d3, false))
      else
      bif decide (x1 ≥ d5) then
        some (.inl (d1, d2, d3, false))
      else
      bif inb x1 d1.length then
        (nth d1 x1.toNat).bind fun (x2 : Bool) =>
        bif x2 then
          some (.inl (d1, d2, d3, false))
        else
        bif inb x1 d1.length then
          bif Nat.blt x1.toNat d1.length then
            bif d2.1 == 27 then
              bif inb x1 d4.length then
                (nth d4 x1.toNat).bind fun (x3 : XN) =>
                bif !((x3.1 == 28) == true) then
                  some (.inl (setNth d1 x1.toNat true, d2, d3, false))
                else
                  k41 rb (setNth d1 x1.toNat true) d2 d3 d4 d5 d6 (IntKind.i64.wrap (d7 + 1))
              else
                none
            else
            bif d2.1 == 28 then
              bif d2.2.2.1 != (-1) then
                bif inb x1 d4.length then
                  (nth d4 x1.toNat).bind fun (x4 : XN) =>
                  bif !((x4.1 == 28) == (d7 == 0)) then
                    some (.inl (setNth d1 x1.toNat true, d2, d3, false))
                  else
                    k41 rb (setNth d1 x1.toNat true) d2 d3 d4 d5 d6 (IntKind.i64.wrap (d7 + 1))
                else
                  none
              else
              bif inb x1 d4.length then
                (nth d4 x1.toNat).bind fun (x5 : XN) =>
                bif !((x5.1 == 28) == false) then
                  some (.inl (setNth d1 x1.toNat true, d2, d3, false))
                else
                  k41 rb (setNth d1 x1.toNat true) d2 d3 d4 d5 d6 (IntKind.i64.wrap (d7 + 1))
              else
                none
            else
            bif inb x1 d4.length then
              (nth d4 x1.toNat).bind fun (x6 : XN) =>
              bif !((x6.1 == 28) == false) then
                some (.inl (setNth d1 x1.toNat true, d2, d3, false))
              else
                k41 rb (setNth d1 x1.toNat true) d2 d3 d4 d5 d6 (IntKind.i64.wrap (d7 + 1))
            else
              none
          else
            none
        else
          none
      else
        none
    else
      none
  else
    some (.inr (d1, d2, d3))
theorem eb41 (rf : T.RF) (rb : T.RB) (d1 : List Bool) (d2 : XN) (d3 : List Int) (d4 : XL) (d5 : Int) (d6 : Int) (d7 : Int) : T.stepB rf rb 41 (d1, d2, d3, d4, d5, d6, d7) = b41 rf rb d1 d2 d3 d4 d5 d6 d7 := by kernel_rfl
theorem ob41 {d1 : List Bool} {d2 : XN} {d3 : List Int} {d4 : XL} {d5 : Int} {d6 : Int} {d7 : Int} {y : ((List Bool × XN × List Int × Bool) ⊕ (List Bool × XN × List Int))} (h : b41 T.rf T.rb d1 d2 d3 d4 d5 d6 d7 = some y) : k41 T.rb d1 d2 d3 d4 d5 d6 d7 = some y := T.rb_of (κ := 41) (d := (d1, d2, d3, d4, d5, d6, d7)) ((eb41 T.rf T.rb d1 d2 d3 d4 d5 d6 d7).trans h)

/- tree.May -/
noncomputable def r45 (rf : T.RF) (rb : T.RB) (d1 : XL) : Option Bool :=
  bif (((d1.length : Nat) : Int)) == 0 then
    some false
  else
  bif decide ((((d1.length : Nat) : Int)) > 5000) then
    some false
  else
  bif inb (IntKind.i64.wrap ((((d1.length : Nat) : Int)) - 1)) d1.length then
    (nth d1 (IntKind.i64.wrap ((((d1.length : Nat) : Int)) - 1)).toNat).bind fun (x1 : XN) =>
    bif x1.1 == 28 then
      some false
    else
    bif inb' (((d1.length : Nat) : Int)) most then
      bif inb' (((d1.length : Nat) : Int)) d1.length then
        (k38 rb (List.replicate d1.length false) d1 d1 (((d1.length : Nat) : Int)) 0).bind fun (z2 : (List Bool × Bool) ⊕ (List Bool)) =>
        match z2 with
        | .inl u3 =>
          some u3.2
        | .inr w4 =>
          bif inb' (IntKind.i64.wrap ((((d1.length : Nat) : Int)) - 1)) w4.length then
            (c49 rf (sub w4 (some (0, ((IntKind.i64.wrap ((((d1.length : Nat) : Int)) - 1)).toNat - 0)))) false).bind fun (y5 : Bool) =>
            bif !y5 then
              (c51 rf d1).bind fun (y6 : Int) =>
              some (decide (y6 ≤ 40))
            else
              some false
          else
            none
      else
        none
    else
      none
  else
    none
theorem er45 (rf : T.RF) (rb : T.RB) (d1 : XL) : T.stepF rf rb 45 d1 = r45 rf rb d1 := by kernel_rfl
theorem or45 {d1 : XL} {y : Bool} (h : r45 T.rf T.rb d1 = some y) : c45 T.rf d1 = some y := T.rf_of (f := 45) (d := d1) ((er45 T.rf T.rb d1).trans h)

/- tree.order loop 0 -/
noncomputable def b52 (rf : T.RF) (rb : T.RB) (d1 : XL) (d2 : List Int) (d3 : XL) (d4 : Int) (d5 : Int) : Option (List Int × XL) :=
  bif decide (d5 < d4) then
    bif inb d5 d2.length then
      (nth d2 d5.toNat).bind fun (x1 : Int) =>
      (c54 rf d1 d3 x1).bind fun (y2 : XL) =>
      bif inb d5 d2.length then
        bif Nat.blt d5.toNat d2.length then
          k52 rb y2 (setNth d2 d5.toNat (IntKind.i64.wrap ((((y2.length : Nat) : Int)) - 1))) d3 d4 (IntKind.i64.wrap (d5 + 1))
        else
          none
      else
        none
    else
      none
  else
    some (d2, d1)
theorem eb52 (rf : T.RF) (rb : T.RB) (d1 : XL) (d2 : List Int) (d3 : XL) (d4 : Int) (d5 : Int) : T.stepB rf rb 52 (d1, d2, d3, d4, d5) = b52 rf rb d1 d2 d3 d4 d5 := by kernel_rfl
theorem ob52 {d1 : XL} {d2 : List Int} {d3 : XL} {d4 : Int} {d5 : Int} {y : (List Int × XL)} (h : b52 T.rf T.rb d1 d2 d3 d4 d5 = some y) : k52 T.rb d1 d2 d3 d4 d5 = some y := T.rb_of (κ := 52) (d := (d1, d2, d3, d4, d5)) ((eb52 T.rf T.rb d1 d2 d3 d4 d5).trans h)

/- tree.order -/
noncomputable def r54 (rf : T.RF) (rb : T.RB) (d1 : XL) (d2 : XL) (d3 : Int) : Option XL :=
  bif inb d3 d2.length then
    (nth d2 d3.toNat).bind fun (x1 : XN) =>
    (c47 rf x1).bind fun (y2 : List Int) =>
    (k52 rb d1 y2 d2 (((y2.length : Nat) : Int)) 0).bind fun (z3 : List Int × XL) =>
    bif inb d3 d2.length then
      (nth d2 d3.toNat).bind fun (x4 : XN) =>
      (c48 rf x4 z3.1).bind fun (y5 : XN) =>
      bif (Nat.ble (z3.2.length + 1) most) && true then
        some (z3.2 ++ [y5])
      else
        none
    else
      none
  else
    none
theorem er54 (rf : T.RF) (rb : T.RB) (d1 : XL) (d2 : XL) (d3 : Int) : T.stepF rf rb 54 (d1, d2, d3) = r54 rf rb d1 d2 d3 := by kernel_rfl
theorem or54 {d1 : XL} {d2 : XL} {d3 : Int} {y : XL} (h : r54 T.rf T.rb d1 d2 d3 = some y) : c54 T.rf d1 d2 d3 = some y := T.rf_of (f := 54) (d := (d1, d2, d3)) ((er54 T.rf T.rb d1 d2 d3).trans h)

/- tree.Sub -/
noncomputable def r53 (rf : T.RF) (rb : T.RB) (d1 : XL) (d2 : Int) : Option XL :=
  bif decide (d2 < 0) then
    some []
  else
  bif decide (d2 ≥ (((d1.length : Nat) : Int))) then
    some []
  else
    (c45 rf d1).bind fun (y1 : Bool) =>
    bif !y1 then
      some []
    else
      (c54 rf [] d1 d2).bind fun (y2 : XL) =>
      some y2
theorem er53 (rf : T.RF) (rb : T.RB) (d1 : XL) (d2 : Int) : T.stepF rf rb 53 (d1, d2) = r53 rf rb d1 d2 := by kernel_rfl
theorem or53 {d1 : XL} {d2 : Int} {y : XL} (h : r53 T.rf T.rb d1 d2 = some y) : c53 T.rf d1 d2 = some y := T.rf_of (f := 53) (d := (d1, d2)) ((er53 T.rf T.rb d1 d2).trans h)

/- (*bailment/types.checker).node$1 -/
noncomputable def r57 (rf : T.RF) (rb : T.RB) (d1 : XN) (d2 : List UInt8 × Int) : Option (XN × Bool) :=
  some (d1, d2.1 == d1.2.2.2.2.2)
theorem er57 (rf : T.RF) (rb : T.RB) (d1 : XN) (d2 : List UInt8 × Int) : T.stepF rf rb 57 (d1, d2) = r57 rf rb d1 d2 := by kernel_rfl
theorem or57 {d1 : XN} {d2 : List UInt8 × Int} {y : (XN × Bool)} (h : r57 T.rf T.rb d1 d2 = some y) : c57 T.rf d1 d2 = some y := T.rf_of (f := 57) (d := (d1, d2)) ((er57 T.rf T.rb d1 d2).trans h)

/- slices.IndexFunc[[]bailment/api.Param,bailment/api.Param] loop 0 -/
noncomputable def b54 (rf : T.RF) (rb : T.RB) (d1 : XN) (d2 : XP) (d3 : Int) (d4 : Int) : Option ((XN × Int) ⊕ XN) :=
  bif decide (d4 < d3) then
    bif inb d4 d2.length then
      (nth d2 d4.toNat).bind fun (x1 : List UInt8 × Int) =>
      (c57 rf d1 x1).bind fun (y2 : XN × Bool) =>
      bif y2.2 then
        some (.inl (y2.1, d4))
      else
        k54 rb y2.1 d2 d3 (IntKind.i64.wrap (d4 + 1))
    else
      none
  else
    some (.inr d1)
theorem eb54 (rf : T.RF) (rb : T.RB) (d1 : XN) (d2 : XP) (d3 : Int) (d4 : Int) : T.stepB rf rb 54 (d1, d2, d3, d4) = b54 rf rb d1 d2 d3 d4 := by kernel_rfl
theorem ob54 {d1 : XN} {d2 : XP} {d3 : Int} {d4 : Int} {y : ((XN × Int) ⊕ XN)} (h : b54 T.rf T.rb d1 d2 d3 d4 = some y) : k54 T.rb d1 d2 d3 d4 = some y := T.rb_of (κ := 54) (d := (d1, d2, d3, d4)) ((eb54 T.rf T.rb d1 d2 d3 d4).trans h)

/- slices.IndexFunc[[]bailment/api.Param,bailment/api.Param] -/
noncomputable def r56 (rf : T.RF) (rb : T.RB) (d1 : XN) (d2 : XP) : Option (XN × Int) :=
  (k54 rb d1 d2 (((d2.length : Nat) : Int)) 0).bind fun (z1 : (XN × Int) ⊕ XN) =>
  match z1 with
  | .inl u2 =>
    some u2
  | .inr w3 =>
    some (w3, (-1))
theorem er56 (rf : T.RF) (rb : T.RB) (d1 : XN) (d2 : XP) : T.stepF rf rb 56 (d1, d2) = r56 rf rb d1 d2 := by kernel_rfl
theorem or56 {d1 : XN} {d2 : XP} {y : (XN × Int)} (h : r56 T.rf T.rb d1 d2 = some y) : c56 T.rf d1 d2 = some y := T.rf_of (f := 56) (d := (d1, d2)) ((er56 T.rf T.rb d1 d2).trans h)

/- (*bailment/types.checker).node$2 -/
noncomputable def r59 (rf : T.RF) (rb : T.RB) (d1 : XN) (d2 : XU) : Option (XN × Bool) :=
  bif d2.2.1 == d1.2.2.2.2.2 then
    some (d1, !d2.1)
  else
    some (d1, false)
theorem er59 (rf : T.RF) (rb : T.RB) (d1 : XN) (d2 : XU) : T.stepF rf rb 59 (d1, d2) = r59 rf rb d1 d2 := by kernel_rfl
theorem or59 {d1 : XN} {d2 : XU} {y : (XN × Bool)} (h : r59 T.rf T.rb d1 d2 = some y) : c59 T.rf d1 d2 = some y := T.rf_of (f := 59) (d := (d1, d2)) ((er59 T.rf T.rb d1 d2).trans h)

/- slices.IndexFunc[[]bailment/api.Unit,bailment/api.Unit] loop 0 -/
noncomputable def b55 (rf : T.RF) (rb : T.RB) (d1 : XN) (d2 : List XU) (d3 : Int) (d4 : Int) : Option ((XN × Int) ⊕ XN) :=
  bif decide (d4 < d3) then
    bif inb d4 d2.length then
      (nth d2 d4.toNat).bind fun (x1 : XU) =>
      (c59 rf d1 x1).bind fun (y2 : XN × Bool) =>
      bif y2.2 then
        some (.inl (y2.1, d4))
      else
        k55 rb y2.1 d2 d3 (IntKind.i64.wrap (d4 + 1))
    else
      none
  else
    some (.inr d1)
theorem eb55 (rf : T.RF) (rb : T.RB) (d1 : XN) (d2 : List XU) (d3 : Int) (d4 : Int) : T.stepB rf rb 55 (d1, d2, d3, d4) = b55 rf rb d1 d2 d3 d4 := by kernel_rfl
theorem ob55 {d1 : XN} {d2 : List XU} {d3 : Int} {d4 : Int} {y : ((XN × Int) ⊕ XN)} (h : b55 T.rf T.rb d1 d2 d3 d4 = some y) : k55 T.rb d1 d2 d3 d4 = some y := T.rb_of (κ := 55) (d := (d1, d2, d3, d4)) ((eb55 T.rf T.rb d1 d2 d3 d4).trans h)

/- slices.IndexFunc[[]bailment/api.Unit,bailment/api.Unit] -/
noncomputable def r58 (rf : T.RF) (rb : T.RB) (d1 : XN) (d2 : List XU) : Option (XN × Int) :=
  (k55 rb d1 d2 (((d2.length : Nat) : Int)) 0).bind fun (z1 : (XN × Int) ⊕ XN) =>
  match z1 with
  | .inl u2 =>
    some u2
  | .inr w3 =>
    some (w3, (-1))
theorem er58 (rf : T.RF) (rb : T.RB) (d1 : XN) (d2 : List XU) : T.stepF rf rb 58 (d1, d2) = r58 rf rb d1 d2 := by kernel_rfl
theorem or58 {d1 : XN} {d2 : List XU} {y : (XN × Int)} (h : r58 T.rf T.rb d1 d2 = some y) : c58 T.rf d1 d2 = some y := T.rf_of (f := 58) (d := (d1, d2)) ((er58 T.rf T.rb d1 d2).trans h)

/- slices.Reverse[[]int,int] loop 0 -/
noncomputable def b61q (rf : T.RF) (rb : T.RB) (d1 : List Int) (d2 : Int) (d3 : Int) : Option (List Int) :=
  bif decide (d2 < d3) then
    bif inb d3 d1.length then
      bif inb d2 d1.length then
        agree (
          (nth d1 d3.toNat).bind fun (x1 : Int) =>
          (nth d1 d2.toNat).bind fun (x2 : Int) =>
          bif inb d2 d1.length then
            bif Nat.blt d2.toNat d1.length then
              bif inb d3 (setNth d1 d2.toNat x1).length then
                bif Nat.blt d3.toNat (setNth d1 d2.toNat x1).length then
                  k61 rb (setNth (setNth d1 d2.toNat x1) d3.toNat x2) (IntKind.i64.wrap (d2 + 1)) (IntKind.i64.wrap (d3 - 1))
                else
                  none
              else
                none
            else
              none
          else
            none
        ) (
          (nth d1 d2.toNat).bind fun (x1 : Int) =>
          (nth d1 d3.toNat).bind fun (x2 : Int) =>
          bif inb d2 d1.length then
            bif Nat.blt d2.toNat d1.length then
              bif inb d3 (setNth d1 d2.toNat x2).length then
                bif Nat.blt d3.toNat (setNth d1 d2.toNat x2).length then
                  k61 rb (setNth (setNth d1 d2.toNat x2) d3.toNat x1) (IntKind.i64.wrap (d2 + 1)) (IntKind.i64.wrap (d3 - 1))
                else
                  none
              else
                none
            else
              none
          else
            none
        )
      else
        none
    else
      none
  else
    some d1
noncomputable def b61 (rf : T.RF) (rb : T.RB) (d1 : List Int) (d2 : Int) (d3 : Int) : Option (List Int) :=
  bif decide (d2 < d3) then
    bif inb d3 d1.length then
      bif inb d2 d1.length then
        (nth d1 d3.toNat).bind fun (x1 : Int) =>
        (nth d1 d2.toNat).bind fun (x2 : Int) =>
        bif inb d2 d1.length then
          bif Nat.blt d2.toNat d1.length then
            bif inb d3 (setNth d1 d2.toNat x1).length then
              bif Nat.blt d3.toNat (setNth d1 d2.toNat x1).length then
                k61 rb (setNth (setNth d1 d2.toNat x1) d3.toNat x2) (IntKind.i64.wrap (d2 + 1)) (IntKind.i64.wrap (d3 - 1))
              else
                none
            else
              none
          else
            none
        else
          none
      else
        none
    else
      none
  else
    some d1
theorem eb61 (rf : T.RF) (rb : T.RB) (d1 : List Int) (d2 : Int) (d3 : Int) : T.stepB rf rb 61 (d1, d2, d3) = b61q rf rb d1 d2 d3 := by kernel_rfl
theorem sb61 (rf : T.RF) (rb : T.RB) (d1 : List Int) (d2 : Int) (d3 : Int) : b61q rf rb d1 d2 d3 = b61 rf rb d1 d2 d3 := by
  unfold b61q b61; simp only [agN_eq, agree_self, agree_swap]
theorem ob61 {d1 : List Int} {d2 : Int} {d3 : Int} {y : (List Int)} (h : b61 T.rf T.rb d1 d2 d3 = some y) : k61 T.rb d1 d2 d3 = some y := T.rb_of (κ := 61) (d := (d1, d2, d3)) (((eb61 T.rf T.rb d1 d2 d3).trans (sb61 T.rf T.rb d1 d2 d3)).trans h)

/- slices.Reverse[[]int,int] -/
noncomputable def r61 (rf : T.RF) (rb : T.RB) (d1 : List Int) : Option (List Int) :=
  (k61 rb d1 0 (IntKind.i64.wrap ((((d1.length : Nat) : Int)) - 1))).bind fun (z1 : List Int) =>
  some z1
theorem er61 (rf : T.RF) (rb : T.RB) (d1 : List Int) : T.stepF rf rb 61 d1 = r61 rf rb d1 := by kernel_rfl
theorem or61 {d1 : List Int} {y : (List Int)} (h : r61 T.rf T.rb d1 = some y) : c61 T.rf d1 = some y := T.rf_of (f := 61) (d := d1) ((er61 T.rf T.rb d1).trans h)

/- types.args loop 0 -/
noncomputable def b57 (rf : T.RF) (rb : T.RB) (d1 : List Int) (d2 : List Int) (d3 : XL) (d4 : Int) : Option (List Int × List Int) :=
  bif decide (d4 ≥ 0) then
    bif inb d4 d3.length then
      (nth d3 d4.toNat).bind fun (x1 : XN) =>
      bif inb x1.2.1 d1.length then
        (nth d1 x1.2.1.toNat).bind fun (x2 : Int) =>
        bif (Nat.ble (d2.length + 1) most) && true then
          bif inb d4 d3.length then
            (nth d3 d4.toNat).bind fun (x3 : XN) =>
            k57 rb d1 (d2 ++ [x2]) d3 x3.2.2.1
          else
            none
        else
          none
      else
        none
    else
      none
  else
    some (d1, d2)
theorem eb57 (rf : T.RF) (rb : T.RB) (d1 : List Int) (d2 : List Int) (d3 : XL) (d4 : Int) : T.stepB rf rb 57 (d1, d2, d3, d4) = b57 rf rb d1 d2 d3 d4 := by kernel_rfl
theorem ob57 {d1 : List Int} {d2 : List Int} {d3 : XL} {d4 : Int} {y : (List Int × List Int)} (h : b57 T.rf T.rb d1 d2 d3 d4 = some y) : k57 T.rb d1 d2 d3 d4 = some y := T.rb_of (κ := 57) (d := (d1, d2, d3, d4)) ((eb57 T.rf T.rb d1 d2 d3 d4).trans h)

/- types.args -/
noncomputable def r60 (rf : T.RF) (rb : T.RB) (d1 : List Int) (d2 : XL) (d3 : XN) : Option (List Int × List Int) :=
  (k57 rb d1 [] d2 d3.2.1).bind fun (z1 : List Int × List Int) =>
  (c61 rf z1.2).bind fun (y2 : List Int) =>
  some (z1.1, y2)
theorem er60 (rf : T.RF) (rb : T.RB) (d1 : List Int) (d2 : XL) (d3 : XN) : T.stepF rf rb 60 (d1, d2, d3) = r60 rf rb d1 d2 d3 := by kernel_rfl
theorem or60 {d1 : List Int} {d2 : XL} {d3 : XN} {y : (List Int × List Int)} (h : r60 T.rf T.rb d1 d2 d3 = some y) : c60 T.rf d1 d2 d3 = some y := T.rf_of (f := 60) (d := (d1, d2, d3)) ((er60 T.rf T.rb d1 d2 d3).trans h)

/- types.shapes -/
noncomputable def r62 (rf : T.RF) (rb : T.RB) : Option (Int × Int × Int × Int × Int × Int × Int × Int × Int × Int × Int × Int × Int × Int × Int × Int × Int × Int × Int × Int × Int × Int × Int × Int × Int × Int × Int × Int × Int × Int × Int × Int × Int × Int × Int × Int × Int × Int × Int × Int × Int × Int × Int × Int × Int × Int × Int × Int × Int × Int × Int × Int) :=
  some (0, 0, 0, 2, 0, 1, 0, 0, 1, 1, 2, 2, 1, 1, 1, 1, 1, 1, 1, 1, 0, 1, 0, 1, 2, 1, 2, 1, 2, 2, 2, 2, 2, 2, 2, 2, 2, 2, 0, 0, 1, 1, 0, 0, 1, 1, 1, 1, 1, 1, 1, 1)
theorem er62 (rf : T.RF) (rb : T.RB) : T.stepF rf rb 62 () = r62 rf rb := by kernel_rfl
theorem or62 {y : (Int × Int × Int × Int × Int × Int × Int × Int × Int × Int × Int × Int × Int × Int × Int × Int × Int × Int × Int × Int × Int × Int × Int × Int × Int × Int × Int × Int × Int × Int × Int × Int × Int × Int × Int × Int × Int × Int × Int × Int × Int × Int × Int × Int × Int × Int × Int × Int × Int × Int × Int × Int)} (h : r62 T.rf T.rb = some y) : c62 T.rf = some y := T.rf_of (f := 62) (d := ()) ((er62 T.rf T.rb).trans h)

/- (*bailment/types.checker).node loop 1 -/
noncomputable def b62 (rf : T.RF) (rb : T.RB) (d1 : List Int) (d2 : XP) (d3 : Int) (d4 : Int) : Option ((List Int × Int × Int) ⊕ (List Int)) :=
  bif decide (d4 < d3) then
    bif inb d4 d2.length then
      (nth d2 d4.toNat).bind fun (x1 : List UInt8 × Int) =>
      bif inb d4 d1.length then
        (nth d1 d4.toNat).bind fun (x2 : Int) =>
        bif x1.2 != x2 then
          some (.inl (d1, 0, 10))
        else
          k62 rb d1 d2 d3 (IntKind.i64.wrap (d4 + 1))
      else
        none
    else
      none
  else
    some (.inr d1)
theorem eb62 (rf : T.RF) (rb : T.RB) (d1 : List Int) (d2 : XP) (d3 : Int) (d4 : Int) : T.stepB rf rb 62 (d1, d2, d3, d4) = b62 rf rb d1 d2 d3 d4 := by kernel_rfl
theorem ob62 {d1 : List Int} {d2 : XP} {d3 : Int} {d4 : Int} {y : ((List Int × Int × Int) ⊕ (List Int))} (h : b62 T.rf T.rb d1 d2 d3 d4 = some y) : k62 T.rb d1 d2 d3 d4 = some y := T.rb_of (κ := 62) (d := (d1, d2, d3, d4)) ((eb62 T.rf T.rb d1 d2 d3 d4).trans h)

/- (*bailment/types.checker).node tail 26 -/
noncomputable def b63 (rf : T.RF) (rb : T.RB) (d1 : List Int) (d2 : XN) (d3 : Int × Int) (d4 : Int) : Option (List Int × XN × (Int × Int) × Int × Int) :=
  (c47 rf d2).bind fun (y1 : List Int) =>
  (k64 rb d1 d3 y1 d4 (((y1.length : Nat) : Int)) 0).bind fun (z2 : (List Int × (Int × Int) × List Int × Int × Int) ⊕ (List Int × (Int × Int) × List Int × Int)) =>
  match z2 with
  | .inl u3 =>
    some (u3.1, d2, u3.2.1, u3.2.2.2)
  | .inr w4 =>
    bif w4.2.1.2 != 0 then
      some (w4.1, d2, w4.2.1, w4.2.1.2, 0)
    else
      some (w4.1, d2, w4.2.1, w4.2.2.2, 0)
theorem eb63 (rf : T.RF) (rb : T.RB) (d1 : List Int) (d2 : XN) (d3 : Int × Int) (d4 : Int) : T.stepB rf rb 63 (d1, d2, d3, d4) = b63 rf rb d1 d2 d3 d4 := by kernel_rfl
theorem ob63 {d1 : List Int} {d2 : XN} {d3 : Int × Int} {d4 : Int} {y : (List Int × XN × (Int × Int) × Int × Int)} (h : b63 T.rf T.rb d1 d2 d3 d4 = some y) : k63 T.rb d1 d2 d3 d4 = some y := T.rb_of (κ := 63) (d := (d1, d2, d3, d4)) ((eb63 T.rf T.rb d1 d2 d3 d4).trans h)

/- (*bailment/types.checker).node loop 3 -/
noncomputable def b64 (rf : T.RF) (rb : T.RB) (d1 : List Int) (d2 : Int × Int) (d3 : List Int) (d4 : Int) (d5 : Int) (d6 : Int) : Option ((List Int × (Int × Int) × List Int × Int × Int) ⊕ (List Int × (Int × Int) × List Int × Int)) :=
  bif decide (d6 < d5) then
    bif inb d6 d3.length then
      (nth d3 d6.toNat).bind fun (x1 : Int) =>
      bif d2.1 != 0 then
        bif inb x1 d1.length then
          (nth d1 x1.toNat).bind fun (x2 : Int) =>
          bif x2 != d2.1 then
            some (.inl (d1, d2, d3, 0, 10))
          else
          bif decide (d6 > 0) then
            bif inb x1 d1.length then
              (nth d1 x1.toNat).bind fun (x3 : Int) =>
              bif x3 != d4 then
                some (.inl (d1, d2, d3, 0, 10))
              else
              bif inb x1 d1.length then
                (nth d1 x1.toNat).bind fun (x4 : Int) =>
                k64 rb d1 d2 d3 x4 d5 (IntKind.i64.wrap (d6 + 1))
              else
                none
            else
              none
          else
          bif inb x1 d1.length then
            (nth d1 x1.toNat).bind fun (x5 : Int) =>
            k64 rb d1 d2 d3 x5 d5 (IntKind.i64.wrap (d6 + 1))
          else
            none
        else
          none
      else
      bif decide (d6 > 0) then
        bif inb x1 d1.length then
          (nth d1 x1.toNat).bind fun (x6 : Int) =>
          bif x6 != d4 then
            some (.inl (d1, d2, d3, 0, 10))
          else
          bif inb x1 d1.length then
            (nth d1 x1.toNat).bind fun (x7 : Int) =>
            k64 rb d1 d2 d3 x7 d5 (IntKind.i64.wrap (d6 + 1))
          else
            none
        else
          none
      else
      bif inb x1 d1.length then
        (nth d1 x1.toNat).bind fun (x8 : Int) =>
        k64 rb d1 d2 d3 x8 d5 (IntKind.i64.wrap (d6 + 1))
      else
        none
    else
      none
  else
    some (.inr (d1, d2, d3, d4))
theorem eb64 (rf : T.RF) (rb : T.RB) (d1 : List Int) (d2 : Int × Int) (d3 : List Int) (d4 : Int) (d5 : Int) (d6 : Int) : T.stepB rf rb 64 (d1, d2, d3, d4, d5, d6) = b64 rf rb d1 d2 d3 d4 d5 d6 := by kernel_rfl
theorem ob64 {d1 : List Int} {d2 : Int × Int} {d3 : List Int} {d4 : Int} {d5 : Int} {d6 : Int} {y : ((List Int × (Int × Int) × List Int × Int × Int) ⊕ (List Int × (Int × Int) × List Int × Int))} (h : b64 T.rf T.rb d1 d2 d3 d4 d5 d6 = some y) : k64 T.rb d1 d2 d3 d4 d5 d6 = some y := T.rb_of (κ := 64) (d := (d1, d2, d3, d4, d5, d6)) ((eb64 T.rf T.rb d1 d2 d3 d4 d5 d6).trans h)

end Go.Proofs.Ytomofgclaiaikaa.R
