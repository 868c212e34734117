/-
  OUR OWN, PRINTED BY A PROGRAM OF OURS (table2.py): the table of the functions, and what each comes to.
-/
import Derived.Test.YtanomapnincmoaaBmRun
import Derived.Test.YtanomapnincmoaaProg
import Derived.KernelRfl
namespace Go.Proofs.Ytanomapnincmoaa.R
open Go Go.Bm Go.Proofs
set_option linter.unusedVariables false
set_option linter.unusedSimpArgs false
set_option maxRecDepth 100000

abbrev XO : Type := Int × Int × Int × Int × Int
abbrev XOc : CT := (.prod (.int .i64) (.prod (.int .i64) (.prod (.int .i64) (.prod (.int .i64) (.int .i64)))))
abbrev XT : Type := List XO × List Int × List Int
abbrev XTc : CT := (.prod (.list XOc) (.prod (.list (.int .i64)) (.list (.int .i64))))
abbrev XI : Type := Int × XO
abbrev XIc : CT := (.prod (.int .i64) XOc)
abbrev XC : Type := List XI × Int × Int × List Int × List Int
abbrev XCc : CT := (.prod (.list XIc) (.prod (.int .i64) (.prod (.int .i64) (.prod (.list (.int .i64)) (.list (.int .i64))))))
noncomputable def tabs : Tabs := {
  tabL := [(3, .leaf (.int .i64 0)),
  (4, .leaf (.bool false)),
  (9, .leaf (.str [])),
  (21, .leaf (.int .i32 0)),
  (22, .slice XIc 66),
  (23, .slice (.int .i64) 3),
  (25, .struct [(0, 1, false), (1, 1, false), (2, 1, false), (3, 1, false), (4, 1, false)] [.nils, .int .i64 0, .int .i64 0, .nils, .nils]),
  (28, .leaf (.int .i64 0)),
  (30, .slice XIc 61),
  (32, .struct [(0, 1, false), (1, 1, false), (2, 1, false), (3, 1, false), (4, 1, false)] [.nils, .int .i64 0, .int .i64 0, .nils, .nils]),
  (35, .slice XOc 55),
  (37, .struct [(0, 1, false), (1, 1, false), (2, 1, false)] [.nils, .nils, .nils]),
  (38, .slice (.list (.int .i64)) 23),
  (43, .slice XOc 83),
  (45, .struct [(0, 1, false), (1, 1, false), (2, 1, false)] [.nils, .nils, .nils]),
  (55, .struct [(0, 1, false), (1, 1, false), (2, 1, false), (3, 1, false), (4, 1, false)] [.int .i64 0, .int .i64 0, .int .i64 0, .int .i64 0, .int .i64 0]),
  (59, .map (.int .i64) .bool false),
  (61, .struct [(0, 1, false), (1, 1, false), (2, 1, false), (3, 1, false), (4, 1, false), (5, 1, false)] [.int .i64 0, .int .i64 0, .int .i64 0, .int .i64 0, .int .i64 0, .int .i64 0]),
  (66, .struct [(0, 1, false), (1, 1, false), (2, 1, false), (3, 1, false), (4, 1, false), (5, 1, false)] [.int .i64 0, .int .i64 0, .int .i64 0, .int .i64 0, .int .i64 0, .int .i64 0]),
  (67, .slice .bool 4),
  (73, .slice (.prod .str (.prod (.int .i64) (.list (.prod (.int .i64) (.prod (.int .i64) (.prod (.int .i64) (.prod (.int .i64) (.prod (.int .i64) .str)))))))) 77),
  (75, .slice (.prod (.int .i64) (.prod (.int .i64) (.prod (.int .i64) (.prod (.int .i64) (.prod (.int .i64) .str))))) 159),
  (77, .struct [(0, 1, false), (1, 1, false), (2, 1, false)] [.str [], .int .i64 0, .nils]),
  (82, .map (.int .i64) (.int .i64) false),
  (83, .struct [(0, 1, false), (1, 1, false), (2, 1, false), (3, 1, false), (4, 1, false)] [.int .i64 0, .int .i64 0, .int .i64 0, .int .i64 0, .int .i64 0]),
  (87, .struct [(0, 5, true), (5, 1, false), (6, 1, false)] [.nils, .int .i64 0, .int .i64 0, .nils, .nils, .nils, .nilm]),
  (89, .leaf (.nilp)),
  (90, .slice .unit 89),
  (96, .struct [(0, 1, false), (1, 1, false)] [.nils, .bool false]),
  (113, .slice (.int .i64) 3),
  (115, .leaf (.nilp)),
  (117, .leaf (.int .u64 0)),
  (137, .leaf (.int .u64 0))]
  eqtL := [61]
  keysL := [(3, [0]), (4, [75]), (5, [88]), (6, [89]), (7, [90]), (8, [1]), (9, [2]), (10, [67]), (11, [74]), (12, [51]), (13, [76]), (14, [77]), (15, [4]), (16, [3]), (17, [78]), (18, [49]), (19, [85]), (20, [50]), (21, [73]), (22, [72]), (23, [68]), (24, [48]), (25, [16, 20, 40, 69]), (26, [71]), (27, [52]), (28, [54]), (29, [55]), (30, [57]), (31, [5]), (32, [38]), (33, [46]), (34, [37]), (35, [47]), (36, [79]), (37, [83]), (38, [86]), (39, [87]), (40, [58]), (41, [59]), (42, [19]), (43, [14]), (44, [17, 21, 26, 41, 70]), (45, [53]), (46, [56]), (47, [6]), (48, [39]), (49, [43]), (50, [24]), (51, [80]), (52, [81]), (53, [82]), (54, [84]), (55, [62]), (56, [60]), (57, [61]), (58, [7]), (59, [28]), (60, [34]), (61, [42]), (62, [44]), (63, [25]), (64, [27]), (65, [63]), (66, [64]), (67, [65]), (68, [10]), (69, [11]), (70, [22]), (71, [8]), (72, [23]), (73, [31]), (74, [35]), (76, [45]), (77, [66]), (78, [15]), (79, [12]), (80, [13]), (81, [18]), (82, [9]), (99, [30]), (100, [32]), (101, [33]), (102, [36]), (103, [29])]
  mkrL := [38]
  mtL := [(115, [("Len", (99, some (113, 0))), ("Less", (100, some (113, 0))), ("Pop", (102, none)), ("Push", (103, none)), ("Swap", (101, some (113, 0)))])]
  kinL := [⟨[], [.agg [.pl XCc]]⟩,
  ⟨[], [.agg [.pl XCc]]⟩,
  ⟨[], []⟩,
  ⟨[], [.agg [.pl XTc]]⟩,
  ⟨[], [.agg [.pl XTc], .one (.pl (.list (.int .i64)))]⟩,
  ⟨[], [.agg [.pl XTc]]⟩,
  ⟨[], [.agg [.pl XTc]]⟩,
  ⟨[], [.agg [.pl XTc]]⟩,
  ⟨[(true, .box [.pl XTc])], [.one (.pl (.list XOc)), .one (.fn 68 [] [some 0])]⟩,
  ⟨[(true, .box [.pl XTc])], [.one (.pl (.list XOc)), .one (.fn 68 [] [some 0])]⟩,
  ⟨[(true, .box [.pl XTc])], [.agg [.pl XOc], .one (.ptr 0 0)]⟩,
  ⟨[], [.agg [.pl XTc], .agg [.pl XOc]]⟩,
  ⟨[], [.agg [.pl XOc]]⟩,
  ⟨[], [.one (.pl (.int .i64))]⟩,
  ⟨[], [.one (.pl (.int .i64))]⟩,
  ⟨[(true, .box [.pl XTc])], [.one (.pl (.int .i64)), .one (.ptr 0 0)]⟩,
  ⟨[], [.one (.pl (.list (.int .i64))), .one (.fn 81 [] [])]⟩,
  ⟨[], [.one (.pl (.list (.int .i64))), .one (.fn 81 [] [])]⟩,
  ⟨[], [.one (.pl (.int .i64))]⟩,
  ⟨[], [.one (.pl (.int .i64))]⟩,
  ⟨[(true, .box [.pl XTc])], [.one (.pl (.list (.int .i64))), .one (.fn 70 [] [some 0])]⟩,
  ⟨[(true, .box [.pl XTc])], [.one (.pl (.list (.int .i64))), .one (.fn 70 [] [some 0])]⟩,
  ⟨[(true, .box [.pl XTc])], [.one (.pl (.int .i64)), .one (.ptr 0 0)]⟩,
  ⟨[], [.agg [.pl XTc]]⟩,
  ⟨[], [.agg [.pl XOc]]⟩,
  ⟨[(true, .arr (.int .i64))], [.one (.sl 0), .one (.fn 64 [] [])]⟩,
  ⟨[(true, .arr (.int .i64))], [.one (.sl 0), .one (.fn 64 [] [])]⟩,
  ⟨[], [.one (.pl (.int .i64))]⟩,
  ⟨[(true, .box [.sl 1]), (true, .arr (.int .i64))], [.one (.ifp 115 0 0), .one (.ifi 3 .i64)]⟩,
  ⟨[(true, .box [.sl 1]), (true, .arr (.int .i64))], [.one (.ptr 0 0), .one (.ifi 3 .i64)]⟩,
  ⟨[(true, .arr (.int .i64))], [.one (.sl 0)]⟩,
  ⟨[(true, .box [.sl 1]), (true, .arr (.int .i64))], [.one (.ifp 115 0 0), .one (.pl (.int .i64))]⟩,
  ⟨[(true, .arr (.int .i64))], [.one (.sl 0), .one (.pl (.int .i64)), .one (.pl (.int .i64))]⟩,
  ⟨[(true, .arr (.int .i64))], [.one (.sl 0), .one (.pl (.int .i64)), .one (.pl (.int .i64))]⟩,
  ⟨[(true, .box [.sl 1]), (true, .arr (.int .i64))], [.one (.ifp 115 0 0)]⟩,
  ⟨[(true, .box [.sl 1]), (true, .arr (.int .i64))], [.one (.ifp 115 0 0), .one (.pl (.int .i64)), .one (.pl (.int .i64))]⟩,
  ⟨[(true, .box [.sl 1]), (true, .arr (.int .i64))], [.one (.ptr 0 0)]⟩,
  ⟨[], [.one (.pl (.list (.int .i64)))]⟩,
  ⟨[], [.agg [.pl XTc]]⟩,
  ⟨[], [.agg [.pl XTc]]⟩,
  ⟨[(true, .box [.pl (.int .i64)])], [.one (.pl (.list (.int .i64))), .one (.fn 61 [] [some 0])]⟩,
  ⟨[(true, .box [.pl (.int .i64)])], [.one (.pl (.list (.int .i64))), .one (.fn 61 [] [some 0])]⟩,
  ⟨[(true, .box [.pl (.int .i64)])], [.one (.pl (.int .i64)), .one (.ptr 0 0)]⟩,
  ⟨[], [.one (.pl (.list (.int .i64))), .one (.pl (.int .i64))]⟩,
  ⟨[], [.one (.pl (.int .u64)), .one (.pl (.int .u64))]⟩,
  ⟨[], [.one (.pl (.int .u64)), .one (.pl (.int .u64))]⟩,
  ⟨[(true, .box [.pl XTc]), (true, .box [.sl 2]), (true, .arr (.int .i64))], [.one (.pl (.int .i64)), .one (.ptr 0 0), .one (.ptr 1 0)]⟩,
  ⟨[(true, .box [.sl 1, .pl (.int .i64), .pl (.int .i64), .sl 2, .sl 3, .sl 4, .mp 5]), (true, .arr XIc), (true, .arr (.int .i64)), (true, .arr (.int .i64)), (true, .arr (.int .i64)), (true, .map (.int .i64) (.int .i64) false)], [.one (.ptr 0 0)]⟩,
  ⟨[], [.one (.pl (.int .i64))]⟩,
  ⟨[], [.agg [.pl XCc]]⟩,
  ⟨[], [.agg [.pl XCc], .one (.pl (.list (.list (.int .i64))))]⟩,
  ⟨[], [.agg [.pl XCc]]⟩,
  ⟨[], [.agg [.pl XIc]]⟩,
  ⟨[], [.one (.pl (.int .i64))]⟩,
  ⟨[], [.agg [.pl XIc], .one (.pl (.int .i64))]⟩,
  ⟨[], [.agg [.pl XCc], .agg [.pl XIc]]⟩,
  ⟨[], [.one (.pl (.int .i64))]⟩,
  ⟨[(true, .arr .bool)], [.one (.sl 0), .one (.pl (.int .i64))]⟩,
  ⟨[], [.agg [.pl XCc]]⟩,
  ⟨[], [.agg [.pl XCc], .agg [.pl (.prod (.list (.int .i64)) .bool)], .one (.pl (.list (.int .i64)))]⟩,
  ⟨[], [.agg [.pl XCc], .one (.pl (.list (.int .i64)))]⟩,
  ⟨[(true, .arr (.int .i64))], [.agg [.pl XIc], .one (.pl (.list (.int .i64))), .one (.sl 0), .agg [.pl (.prod (.list (.int .i64)) .bool)]]⟩,
  ⟨[], [.one (.pl (.int .i64)), .one (.pl (.int .i64)), .one (.pl (.int .i64)), .one (.pl (.int .i64))]⟩,
  ⟨[], [.one (.pl .bool)]⟩,
  ⟨[], [.one (.pl (.int .i64))]⟩,
  ⟨[], [.one (.pl (.int .i64)), .one (.pl (.int .i64))]⟩,
  ⟨[], [.one (.pl (.int .i64))]⟩,
  ⟨[], [.agg [.pl XCc]]⟩,
  ⟨[], [.agg [.pl XCc], .agg [.pl XIc]]⟩,
  ⟨[(true, .box [.mp 1]), (true, .map (.int .i64) .bool false)], [.one (.pl (.list (.int .i64))), .one (.fn 26 [] [some 0])]⟩,
  ⟨[(true, .box [.mp 1]), (true, .map (.int .i64) .bool false)], [.one (.pl (.list (.int .i64))), .one (.fn 26 [] [some 0])]⟩,
  ⟨[(true, .box [.mp 1]), (true, .map (.int .i64) .bool false)], [.one (.pl (.int .i64)), .one (.ptr 0 0)]⟩,
  ⟨[], [.one (.pl (.list (.list (.int .i64)))), .one (.pl (.list (.list (.int .i64))))]⟩,
  ⟨[], [.one (.pl (.list (.int .i64))), .one (.pl (.list (.int .i64)))]⟩,
  ⟨[], [.agg [.pl XCc]]⟩,
  ⟨[], [.agg [.pl XTc], .one (.pl (.list (.int .i64))), .one (.pl (.list (.list (.int .i64))))]⟩,
  ⟨[], [.agg [.pl XTc]]⟩,
  ⟨[], [.one (.pl (.list (.prod .str (.prod (.int .i64) (.list (.prod (.int .i64) (.prod (.int .i64) (.prod (.int .i64) (.prod (.int .i64) (.prod (.int .i64) .str)))))))))), .one (.pl (.list (.list (.int .i64))))]⟩,
  ⟨[], [.agg [.pl XTc]]⟩,
  ⟨[], [.agg [.pl XTc]]⟩,
  ⟨[], [.one (.pl (.int .i64))]⟩,
  ⟨[], [.agg [.pl XTc], .agg [.pl XOc]]⟩,
  ⟨[], [.agg [.pl XTc], .one (.pl (.int .i64)), .one (.pl (.int .i64)), .one (.pl (.int .i64))]⟩,
  ⟨[], [.agg [.pl XTc]]⟩,
  ⟨[], [.agg [.pl XOc]]⟩,
  ⟨[], [.agg [.pl XTc], .one (.pl (.list (.list (.int .i64))))]⟩,
  ⟨[], [.agg [.pl XTc], .one (.pl (.list (.int .i64)))]⟩,
  ⟨[(true, .arr (.int .i64))], [.agg [.pl XOc], .one (.pl (.list (.int .i64))), .one (.sl 0), .one (.pl (.list (.int .i64)))]⟩,
  ⟨[], [.agg [.pl XTc], .one (.pl (.list (.int .i64)))]⟩,
  ⟨[], [.agg [.pl XTc], .one (.pl (.list (.int .i64))), .one (.pl (.list (.list (.int .i64))))]⟩,
  ⟨[], [.agg [.pl XCc], .one (.pl (.int .i64)), .one (.pl (.int .i64))]⟩]
  koutsL := [[⟨[], [.one (.pl .bool)]⟩],
  [⟨[], [.one (.pl .bool)]⟩],
  [⟨[], [.one (.pl .bool)]⟩],
  [⟨[], [.agg [.pl XTc]]⟩],
  [⟨[], [.agg [.pl XCc], .one (.pl (.int .i64))]⟩],
  [⟨[], [.agg [.pl XTc], .one (.pl (.int .i64))]⟩],
  [⟨[(true, .arr (.int .i64))], [.one (.sl 0), .one (.pl (.int .i64))]⟩],
  [⟨[], [.one (.pl (.int .i64))]⟩],
  [⟨[(true, .box [.pl XTc])], [.one (.pl .bool)]⟩],
  [⟨[(true, .box [.pl XTc])], [.one (.pl (.int .i64))]⟩],
  [⟨[(true, .box [.pl XTc])], [.one (.pl .bool)]⟩],
  [⟨[], [.one (.pl .bool)]⟩],
  [⟨[], [.one (.pl (.list (.int .i64))), .one (.pl (.list (.int .i64)))]⟩],
  [⟨[], [.one (.pl (.int .i64))]⟩],
  [⟨[], [.one (.pl (.int .i64))]⟩],
  [⟨[(true, .box [.pl XTc])], [.one (.pl .bool)]⟩],
  [⟨[], [.one (.pl .bool)]⟩],
  [⟨[], [.one (.pl (.int .i64))]⟩],
  [⟨[], [.one (.pl .bool)]⟩],
  [⟨[], [.one (.pl .bool)]⟩],
  [⟨[(true, .box [.pl XTc])], [.one (.pl .bool)]⟩],
  [⟨[(true, .box [.pl XTc])], [.one (.pl (.int .i64))]⟩],
  [⟨[(true, .box [.pl XTc])], [.one (.pl .bool)]⟩],
  [⟨[], [.one (.pl .bool)]⟩],
  [⟨[(true, .arr (.int .i64))], [.one (.sl 0)]⟩],
  [⟨[(true, .arr (.int .i64))], [.one (.sl 0)]⟩, ⟨[(true, .gone), (true, .arr (.int .i64))], [.one (.sl 1)]⟩],
  [⟨[(true, .arr (.int .i64))], [.one (.pl (.int .i64))]⟩],
  [⟨[], [.one (.pl .bool)]⟩],
  [⟨[(true, .box [.sl 2]), (true, .gone), (true, .arr (.int .i64))], []⟩],
  [⟨[(true, .box [.sl 2]), (true, .gone), (true, .arr (.int .i64))], []⟩],
  [⟨[(true, .arr (.int .i64))], [.one (.pl (.int .i64))]⟩],
  [⟨[(true, .box [.sl 1]), (true, .arr (.int .i64))], []⟩],
  [⟨[(true, .arr (.int .i64))], [.one (.pl .bool)]⟩],
  [⟨[(true, .arr (.int .i64))], []⟩],
  [⟨[(true, .box [.sl 2]), (true, .gone), (true, .arr (.int .i64))], [.one (.ifi 3 .i64)]⟩],
  [⟨[(true, .box [.sl 1]), (true, .arr (.int .i64))], [.one (.pl .bool)]⟩],
  [⟨[(true, .box [.sl 2]), (true, .gone), (true, .arr (.int .i64))], [.one (.ifi 3 .i64)]⟩],
  [⟨[(true, .arr (.int .i64))], [.one (.sl 0)]⟩],
  [⟨[(true, .arr (.int .i64))], [.one (.sl 0)]⟩],
  [⟨[], [.one (.pl .bool)]⟩],
  [⟨[(true, .box [.pl (.int .i64)])], [.one (.pl .bool)]⟩],
  [⟨[(true, .box [.pl (.int .i64)])], [.one (.pl (.int .i64))]⟩],
  [⟨[(true, .box [.pl (.int .i64)])], [.one (.pl .bool)]⟩],
  [⟨[(true, .arr (.int .i64))], [.one (.sl 0)]⟩],
  [⟨[], [.one (.pl (.int .u64)), .one (.pl (.int .u64))]⟩],
  [⟨[], [.one (.pl (.int .u64)), .one (.pl (.int .u64))]⟩],
  [⟨[(true, .box [.pl XTc]), (true, .box [.sl 2]), (true, .arr (.int .i64))], []⟩],
  [⟨[(true, .box [.sl 1, .pl (.int .i64), .pl (.int .i64), .sl 2, .sl 3, .sl 6, .mp 5]), (true, .arr XIc), (true, .arr (.int .i64)), (true, .arr (.int .i64)), (true, .gone), (true, .map (.int .i64) (.int .i64) false), (true, .arr (.int .i64))], [.one (.pl (.int .i64))]⟩, ⟨[(true, .box [.sl 1, .pl (.int .i64), .pl (.int .i64), .sl 2, .sl 3, .sl 4, .mp 5]), (true, .arr XIc), (true, .arr (.int .i64)), (true, .arr (.int .i64)), (true, .arr (.int .i64)), (true, .map (.int .i64) (.int .i64) false)], [.one (.pl (.int .i64))]⟩],
  [⟨[], [.one (.pl (.int .i64))]⟩],
  [⟨[], [.agg [.pl XCc]]⟩],
  [⟨[(true, .arr (.list (.int .i64)))], [.one (.sl 0), .one (.pl (.int .i64))]⟩],
  [⟨[], [.one (.pl (.int .i64))]⟩],
  [⟨[(true, .arr (.int .i64))], [.one (.sl 0), .one (.pl .bool)]⟩],
  [⟨[], [.one (.pl (.int .i64))]⟩],
  [⟨[], [.one (.pl .bool)]⟩],
  [⟨[], [.one (.pl .bool)]⟩],
  [⟨[], [.one (.pl .bool)]⟩],
  [⟨[(true, .arr .bool)], [.one (.pl .bool)]⟩],
  [⟨[], [.agg [.pl (.prod (.list (.int .i64)) .bool)]]⟩],
  [⟨[(true, .arr (.int .i64))], [.one (.sl 0), .agg [.pl (.prod (.list (.int .i64)) .bool)], .one (.pl (.int .i64))]⟩],
  [⟨[], [.one (.pl .bool)]⟩],
  [⟨[(true, .arr (.int .i64))], [.one (.pl (.int .i64)), .one (.pl (.int .i64))]⟩],
  [⟨[], [.one (.pl (.int .i64)), .one (.pl (.int .i64))]⟩],
  [⟨[], [.one (.pl (.int .i64))]⟩],
  [⟨[], [.one (.pl (.int .i64)), .one (.pl (.int .i64))]⟩],
  [⟨[], [.one (.pl (.int .i64)), .one (.pl (.int .i64))]⟩],
  [⟨[], [.one (.pl (.int .i64))]⟩],
  [⟨[], [.one (.pl (.int .i64))]⟩],
  [⟨[], [.one (.pl .bool)]⟩],
  [⟨[(true, .box [.mp 1]), (true, .map (.int .i64) .bool false)], [.one (.pl .bool)]⟩],
  [⟨[(true, .box [.mp 1]), (true, .map (.int .i64) .bool false)], [.one (.pl (.int .i64))]⟩],
  [⟨[(true, .box [.mp 1]), (true, .map (.int .i64) .bool false)], [.one (.pl .bool)]⟩],
  [⟨[], [.one (.pl .bool)]⟩],
  [⟨[], [.one (.pl .bool)]⟩],
  [⟨[], [.agg [.pl XCc]]⟩],
  [⟨[], [.one (.pl .bool)]⟩],
  [⟨[], [.one (.pl .bool)]⟩],
  [⟨[], [.one (.pl .bool)]⟩],
  [⟨[], [.one (.pl (.int .i64))]⟩],
  [⟨[], [.one (.pl .bool)]⟩],
  [⟨[], [.one (.pl (.int .i64))]⟩],
  [⟨[], [.one (.pl .bool)]⟩],
  [⟨[], [.one (.pl .bool)]⟩],
  [⟨[(true, .arr (.int .i64))], [.one (.sl 0)]⟩],
  [⟨[(true, .arr (.int .i64))], [.one (.sl 0)]⟩],
  [⟨[(true, .arr (.list (.int .i64)))], [.one (.sl 0), .one (.pl (.int .i64))]⟩],
  [⟨[], [.one (.pl .bool)]⟩],
  [⟨[(true, .arr (.int .i64))], [.one (.pl (.int .i64)), .one (.pl (.int .i64))]⟩],
  [⟨[], [.one (.pl .bool)]⟩],
  [⟨[], [.one (.pl .bool)]⟩],
  [⟨[], [.one (.pl .bool)]⟩]]
  bkL := [noBlk,
  ⟨[1, 3, 4], ⟨[(true, .box [.pl XTc]), (true, .box [.sl 2, .pl (.list (.int .i64)), .pl (.list (.int .i64))]), (false, .arr XOc)], [.one (.ptr 0 0), .one (.ptr 1 0), .one (.pl (.int .i64))]⟩, [2, 3], [(.norm, [], ⟨[(true, .box [.pl XTc]), (true, .box [.sl 3, .pl (.list (.int .i64)), .pl (.list (.int .i64))]), (true, .gone), (true, .arr XOc)], []⟩)]⟩,
  ⟨[0, 1, 7, 8], ⟨[(true, .box [.pl XTc])], [.one (.pl (.list XOc)), .one (.fn 68 [] [some 0]), .one (.pl (.int .i64)), .one (.pl (.int .i64))]⟩, [], [(.ret, [4], ⟨[(true, .box [.pl XTc])], [.one (.pl (.int .i64))]⟩), (.norm, [], ⟨[(true, .box [.pl XTc])], []⟩)]⟩,
  ⟨[5, 16, 17, 18], ⟨[(true, .box [.pl XTc])], [.one (.fn 78 [] [some 0]), .one (.pl (.list (.int .i64))), .one (.pl (.int .i64)), .one (.pl (.int .i64))]⟩, [2, 3, 7], [(.ret, [4], ⟨[(true, .box [.pl XTc])], [.one (.pl .bool)]⟩), (.norm, [], ⟨[(true, .box [.pl XTc])], []⟩)]⟩,
  ⟨[0, 1, 7, 8], ⟨[], [.one (.pl (.list (.int .i64))), .one (.fn 81 [] []), .one (.pl (.int .i64)), .one (.pl (.int .i64))]⟩, [], [(.ret, [4], ⟨[], [.one (.pl (.int .i64))]⟩), (.norm, [], ⟨[], []⟩)]⟩,
  ⟨[0, 1, 7, 8], ⟨[(true, .box [.pl XTc])], [.one (.pl (.list (.int .i64))), .one (.fn 70 [] [some 0]), .one (.pl (.int .i64)), .one (.pl (.int .i64))]⟩, [], [(.ret, [4], ⟨[(true, .box [.pl XTc])], [.one (.pl (.int .i64))]⟩), (.norm, [], ⟨[(true, .box [.pl XTc])], []⟩)]⟩,
  noBlk,
  noBlk,
  noBlk,
  noBlk,
  noBlk,
  ⟨[1, 3, 17, 18], ⟨[(true, .box [.pl XTc]), (true, .arr (.int .i64))], [.one (.ptr 0 0), .one (.sl 1), .one (.pl (.int .i64)), .one (.pl (.int .i64))]⟩, [], [(.ret, [2], ⟨[(true, .box [.pl XTc]), (true, .arr (.int .i64))], [.one (.pl .bool)]⟩), (.norm, [], ⟨[(true, .box [.pl XTc]), (true, .arr (.int .i64))], []⟩)]⟩,
  ⟨[1, 3, 5], ⟨[(true, .box [.pl XTc]), (true, .arr (.int .i64)), (false, .arr (.int .i64))], [.one (.ptr 0 0), .one (.sl 1), .one (.sl 2)]⟩, [1, 3, 17, 18], [(.ret, [2], ⟨[(true, .box [.pl XTc]), (true, .arr (.int .i64)), (true, .gone)], [.one (.pl .bool)]⟩), (.norm, [], ⟨[(true, .box [.pl XTc]), (true, .arr (.int .i64)), (true, .gone)], []⟩)]⟩,
  ⟨[3, 5, 64, 65, 66], ⟨[(true, .arr (.int .i64)), (false, .arr (.int .i64))], [.one (.sl 0), .one (.sl 1), .one (.pl (.list (.int .i64))), .one (.pl (.int .i64)), .one (.pl (.int .i64))]⟩, [1, 3], [(.ret, [2], ⟨[(true, .arr (.int .i64)), (true, .gone)], [.one (.pl .bool)]⟩), (.norm, [5], ⟨[(true, .arr (.int .i64)), (true, .gone), (true, .arr (.int .i64))], [.one (.sl 2)]⟩)]⟩,
  noBlk,
  ⟨[0, 1, 7, 8], ⟨[(true, .arr (.int .i64))], [.one (.sl 0), .one (.fn 64 [] []), .one (.pl (.int .i64)), .one (.pl (.int .i64))]⟩, [], [(.ret, [4], ⟨[(true, .arr (.int .i64))], [.one (.pl (.int .i64))]⟩), (.norm, [], ⟨[(true, .arr (.int .i64))], []⟩)]⟩,
  ⟨[0, 1, 5, 6], ⟨[(true, .arr (.int .i64))], [.one (.sl 0), .one (.fn 64 [] []), .one (.pl (.int .i64)), .one (.pl (.int .i64))]⟩, [0, 4], [(.norm, [5], ⟨[(true, .arr (.int .i64))], [.one (.pl (.int .i64))]⟩)]⟩,
  noBlk,
  ⟨[0, 1], ⟨[(true, .box [.sl 1]), (true, .arr (.int .i64))], [.one (.ifp 115 0 0), .one (.pl (.int .i64))]⟩, [], [(.norm, [], ⟨[(true, .box [.sl 1]), (true, .arr (.int .i64))], []⟩)]⟩,
  noBlk,
  noBlk,
  noBlk,
  ⟨[0, 2, 7], ⟨[(true, .box [.sl 1]), (true, .arr (.int .i64))], [.one (.ifp 115 0 0), .one (.pl (.int .i64)), .one (.pl (.int .i64))]⟩, [1, 6], [(.norm, [7], ⟨[(true, .box [.sl 1]), (true, .arr (.int .i64))], [.one (.pl (.int .i64))]⟩)]⟩,
  noBlk,
  noBlk,
  noBlk,
  noBlk,
  noBlk,
  noBlk,
  noBlk,
  noBlk,
  noBlk,
  noBlk,
  noBlk,
  noBlk,
  noBlk,
  ⟨[5, 6, 7, 30, 31, 32], ⟨[(true, .arr (.int .i64)), (true, .rows (.int .i64)), (true, .box [.sl 3]), (false, .arr (.int .i64))], [.one (.sl 0), .one (.sl 1), .one (.ptr 2 0), .one (.pl (.list XOc)), .one (.pl (.int .i64)), .one (.pl (.int .i64))]⟩, [2, 3, 5, 6, 7], [(.norm, [], ⟨[(true, .arr (.int .i64)), (true, .rows (.int .i64)), (true, .box [.sl 4]), (true, .gone), (true, .arr (.int .i64))], []⟩)]⟩,
  ⟨[5, 6, 8, 38, 39, 40], ⟨[(true, .arr (.int .i64)), (true, .rows (.int .i64)), (true, .arr (.int .i64))], [.one (.sl 0), .one (.sl 1), .one (.pl (.int .i64)), .one (.sl 2), .one (.pl (.int .i64)), .one (.pl (.int .i64))]⟩, [5, 6, 7, 8, 30, 31, 32], [(.norm, [], ⟨[(true, .arr (.int .i64)), (true, .rows (.int .i64)), (true, .arr (.int .i64))], []⟩)]⟩,
  ⟨[5, 6, 7, 12], ⟨[(true, .arr (.int .i64)), (true, .box [.sl 3]), (false, .arr (.int .i64)), (false, .arr (.int .i64))], [.one (.sl 0), .one (.pl (.list (.list (.int .i64)))), .one (.ptr 1 0), .one (.sl 2)]⟩, [2, 3], [(.norm, [12], ⟨[(true, .arr (.int .i64)), (true, .box [.sl 5]), (true, .gone), (true, .gone), (true, .arr (.int .i64)), (true, .arr (.int .i64))], [.one (.sl 4)]⟩)]⟩,
  ⟨[5, 7, 84, 85, 86], ⟨[(true, .arr (.int .i64)), (true, .box [.sl 2]), (false, .arr (.int .i64))], [.one (.sl 0), .one (.ptr 1 0), .one (.pl (.list (.int .i64))), .one (.pl (.int .i64)), .one (.pl (.int .i64))]⟩, [5, 6, 7, 12], [(.norm, [], ⟨[(true, .arr (.int .i64)), (true, .box [.sl 3]), (true, .gone), (true, .arr (.int .i64))], []⟩)]⟩,
  noBlk,
  noBlk,
  noBlk,
  noBlk,
  noBlk,
  noBlk,
  noBlk,
  noBlk,
  noBlk,
  noBlk,
  noBlk,
  ⟨[6, 29, 30, 31], ⟨[(true, .arr (.int .i64)), (true, .arr (.int .i64))], [.one (.sl 0), .one (.sl 1), .one (.pl (.int .i64)), .one (.pl (.int .i64))]⟩, [1, 2, 3, 4, 6], [(.norm, [], ⟨[(true, .arr (.int .i64)), (true, .arr (.int .i64))], []⟩)]⟩,
  ⟨[1, 6, 9, 45, 46, 47], ⟨[(true, .box [.pl XTc]), (true, .arr (.int .i64)), (true, .box [.sl 4, .sl 5, .sl 6]), (true, .arr (.int .i64)), (false, .arr XOc), (true, .arr (.int .i64)), (true, .arr (.int .i64))], [.one (.ptr 0 0), .one (.sl 1), .one (.ptr 2 0), .one (.sl 3), .one (.pl (.int .i64)), .one (.pl (.int .i64))]⟩, [1, 2, 3, 6, 9], [(.norm, [], ⟨[(true, .box [.pl XTc]), (true, .arr (.int .i64)), (true, .box [.sl 7, .sl 5, .sl 6]), (true, .arr (.int .i64)), (true, .gone), (true, .arr (.int .i64)), (true, .arr (.int .i64)), (true, .arr XOc)], []⟩)]⟩,
  ⟨[6, 9, 86, 87, 88], ⟨[(true, .arr (.int .i64)), (true, .box [.sl 2, .sl 3, .sl 4]), (true, .arr XOc), (false, .arr (.int .i64)), (true, .arr (.int .i64))], [.one (.sl 0), .one (.ptr 1 0), .one (.pl (.list (.int .i64))), .one (.pl (.int .i64)), .one (.pl (.int .i64))]⟩, [2, 3, 9], [(.norm, [], ⟨[(true, .arr (.int .i64)), (true, .box [.sl 2, .sl 5, .sl 4]), (true, .arr XOc), (true, .gone), (true, .arr (.int .i64)), (true, .arr (.int .i64))], []⟩)]⟩,
  ⟨[9, 10, 11], ⟨[], [.one (.pl (.list XOc)), .one (.pl (.int .i64)), .one (.pl (.int .i64))]⟩, [], [(.ret, [2], ⟨[], [.one (.pl .bool)]⟩), (.norm, [], ⟨[], []⟩)]⟩,
  ⟨[0, 1, 7, 8], ⟨[(true, .box [.pl (.int .i64)])], [.one (.pl (.list (.int .i64))), .one (.fn 61 [] [some 0]), .one (.pl (.int .i64)), .one (.pl (.int .i64))]⟩, [], [(.ret, [4], ⟨[(true, .box [.pl (.int .i64)])], [.one (.pl (.int .i64))]⟩), (.norm, [], ⟨[(true, .box [.pl (.int .i64)])], []⟩)]⟩,
  noBlk,
  noBlk,
  ⟨[0, 1], ⟨[], [.one (.pl (.list (.int .i64))), .one (.pl (.int .i64))]⟩, [], [(.ret, [4], ⟨[(true, .arr (.int .i64))], [.one (.sl 0)]⟩)]⟩,
  ⟨[7, 8], ⟨[(true, .arr (.int .i64))], [.one (.sl 0), .one (.pl (.int .i64))]⟩, [4, 7], [(.norm, [], ⟨[(true, .arr (.int .i64))], []⟩)]⟩,
  ⟨[3, 17, 18, 19], ⟨[(true, .arr (.int .i64))], [.one (.sl 0), .one (.pl (.list XOc)), .one (.pl (.int .i64)), .one (.pl (.int .i64))]⟩, [2, 3], [(.norm, [], ⟨[(true, .arr (.int .i64))], []⟩)]⟩,
  ⟨[3, 4, 25, 26, 27], ⟨[(true, .arr (.int .i64)), (true, .arr (.int .i64))], [.one (.sl 0), .one (.pl (.int .i64)), .one (.sl 1), .one (.pl (.int .i64)), .one (.pl (.int .i64))]⟩, [3, 17, 18, 19], [(.norm, [], ⟨[(true, .arr (.int .i64)), (true, .arr (.int .i64))], []⟩)]⟩,
  noBlk,
  noBlk,
  noBlk,
  noBlk,
  noBlk,
  noBlk,
  noBlk,
  noBlk,
  noBlk,
  noBlk,
  noBlk,
  noBlk,
  noBlk,
  noBlk,
  noBlk,
  noBlk,
  noBlk,
  noBlk,
  noBlk,
  noBlk,
  noBlk,
  noBlk,
  noBlk,
  noBlk,
  noBlk,
  noBlk,
  noBlk,
  noBlk,
  noBlk,
  noBlk,
  noBlk,
  noBlk,
  noBlk,
  noBlk,
  noBlk,
  noBlk,
  noBlk,
  noBlk,
  noBlk,
  noBlk,
  noBlk,
  noBlk,
  noBlk,
  noBlk,
  noBlk,
  noBlk,
  noBlk,
  noBlk,
  noBlk,
  noBlk,
  noBlk,
  noBlk,
  noBlk,
  noBlk,
  noBlk,
  noBlk,
  noBlk,
  noBlk,
  noBlk,
  noBlk,
  noBlk,
  noBlk,
  noBlk,
  noBlk,
  noBlk,
  noBlk,
  noBlk,
  noBlk,
  noBlk,
  noBlk,
  noBlk,
  noBlk,
  noBlk,
  noBlk,
  noBlk,
  noBlk,
  noBlk,
  noBlk,
  noBlk,
  noBlk,
  noBlk,
  noBlk,
  noBlk,
  noBlk,
  noBlk,
  noBlk,
  noBlk,
  noBlk,
  noBlk,
  noBlk,
  noBlk,
  noBlk,
  noBlk,
  noBlk,
  noBlk,
  noBlk,
  noBlk,
  noBlk,
  noBlk,
  noBlk,
  noBlk,
  noBlk,
  noBlk,
  noBlk,
  noBlk,
  noBlk,
  noBlk,
  noBlk,
  noBlk,
  noBlk,
  noBlk,
  noBlk,
  noBlk,
  noBlk,
  noBlk,
  noBlk,
  noBlk,
  noBlk,
  noBlk,
  noBlk,
  noBlk,
  noBlk,
  noBlk,
  noBlk,
  noBlk,
  noBlk,
  noBlk,
  noBlk,
  noBlk,
  noBlk,
  noBlk,
  noBlk,
  ⟨[2, 4, 8, 45, 46, 47], ⟨[(true, .box [.pl XTc]), (true, .box [.sl 3, .pl (.int .i64), .pl (.int .i64), .sl 4, .pl (.list (.int .i64))]), (true, .box [.sl 5]), (true, .arr XIc), (true, .arr (.int .i64)), (true, .arr (.int .i64))], [.one (.ptr 0 0), .one (.ptr 1 0), .one (.fn 33 [] [some 0, some 2]), .one (.pl (.list (.int .i64))), .one (.pl (.int .i64)), .one (.pl (.int .i64))]⟩, [1, 2, 4, 7, 8], [(.ret, [5], ⟨[(true, .box [.pl XTc]), (true, .box [.sl 6, .pl (.int .i64), .pl (.int .i64), .sl 7, .pl (.list (.int .i64))]), (true, .box [.sl 5]), (true, .arr XIc), (true, .arr (.int .i64)), (true, .arr (.int .i64)), (true, .arr XIc), (true, .arr (.int .i64))], [.one (.pl (.int .i64))]⟩), (.norm, [], ⟨[(true, .box [.pl XTc]), (true, .box [.sl 3, .pl (.int .i64), .pl (.int .i64), .sl 4, .pl (.list (.int .i64))]), (true, .box [.sl 5]), (true, .arr XIc), (true, .arr (.int .i64)), (true, .arr (.int .i64))], []⟩)]⟩,
  ⟨[8, 11, 71, 72, 73], ⟨[(true, .box [.pl XTc]), (true, .box [.sl 3]), (true, .map (.int .i64) (.int .i64) false), (true, .arr (.int .i64))], [.one (.fn 33 [] [some 0, some 1]), .one (.mp 2), .one (.pl (.list XOc)), .one (.pl (.int .i64)), .one (.pl (.int .i64))]⟩, [1, 2, 4, 5, 7, 11], [(.norm, [], ⟨[(true, .box [.pl XTc]), (true, .box [.sl 3]), (true, .map (.int .i64) (.int .i64) false), (true, .arr (.int .i64))], []⟩)]⟩,
  ⟨[7, 11, 16, 116, 117, 118], ⟨[(true, .box [.sl 3]), (true, .map (.int .i64) (.int .i64) false), (true, .box [.sl 4, .pl (.int .i64), .pl (.int .i64), .sl 5, .sl 6, .sl 7, .mp 8]), (true, .arr (.int .i64)), (false, .arr XIc), (true, .arr (.int .i64)), (true, .arr (.int .i64)), (false, .arr (.int .i64)), (true, .map (.int .i64) (.int .i64) false)], [.one (.ptr 0 0), .one (.mp 1), .one (.ptr 2 0), .one (.pl (.list XOc)), .one (.pl (.int .i64)), .one (.pl (.int .i64))]⟩, [1, 2, 4, 5, 11, 16], [(.norm, [], ⟨[(true, .box [.sl 3]), (true, .map (.int .i64) (.int .i64) false), (true, .box [.sl 9, .pl (.int .i64), .pl (.int .i64), .sl 5, .sl 6, .sl 10, .mp 8]), (true, .arr (.int .i64)), (true, .gone), (true, .arr (.int .i64)), (true, .arr (.int .i64)), (true, .gone), (true, .map (.int .i64) (.int .i64) false), (true, .arr XIc), (true, .arr (.int .i64))], []⟩)]⟩,
  ⟨[7, 16, 17, 19], ⟨[(true, .box [.sl 3]), (true, .box [.sl 4, .pl (.int .i64), .pl (.int .i64), .sl 5, .sl 6, .sl 7, .mp 8]), (true, .box [.pl XIc]), (true, .arr (.int .i64)), (true, .arr XIc), (true, .arr (.int .i64)), (true, .arr (.int .i64)), (true, .arr (.int .i64)), (true, .map (.int .i64) (.int .i64) false)], [.one (.ptr 0 0), .one (.ptr 1 0), .one (.pl (.int .i64)), .one (.ptr 2 0)]⟩, [7, 11, 16, 116, 117, 118], [(.norm, [], ⟨[(true, .box [.sl 3]), (true, .box [.sl 9, .pl (.int .i64), .pl (.int .i64), .sl 5, .sl 6, .sl 10, .mp 8]), (true, .box [.pl XIc]), (true, .arr (.int .i64)), (true, .gone), (true, .arr (.int .i64)), (true, .arr (.int .i64)), (true, .gone), (true, .map (.int .i64) (.int .i64) false), (true, .arr XIc), (true, .arr (.int .i64))], []⟩), (.norm, [], ⟨[(true, .box [.sl 3]), (true, .box [.sl 9, .pl (.int .i64), .pl (.int .i64), .sl 5, .sl 6, .sl 7, .mp 8]), (true, .box [.pl XIc]), (true, .arr (.int .i64)), (true, .gone), (true, .arr (.int .i64)), (true, .arr (.int .i64)), (true, .arr (.int .i64)), (true, .map (.int .i64) (.int .i64) false), (true, .arr XIc)], []⟩)]⟩,
  ⟨[7, 16, 17, 20, 21], ⟨[(true, .box [.sl 4]), (true, .box [.sl 5, .pl (.int .i64), .pl (.int .i64), .sl 6, .sl 7, .sl 8, .mp 9]), (true, .cells [.ptr 10 2, .ptr 10 3, .ptr 10 4]), (true, .arr (.int .i64)), (true, .arr (.int .i64)), (true, .arr XIc), (true, .arr (.int .i64)), (true, .arr (.int .i64)), (true, .arr (.int .i64)), (true, .map (.int .i64) (.int .i64) false), (true, .box [.pl XIc])], [.one (.ptr 0 0), .one (.ptr 1 0), .one (.pl (.int .i64)), .one (.sl 2), .one (.sl 3)]⟩, [7, 11, 16, 17, 19, 116, 117, 118], [(.norm, [], ⟨[(true, .box [.sl 4]), (true, .box [.sl 5, .pl (.int .i64), .pl (.int .i64), .sl 6, .sl 7, .sl 11, .mp 9]), (true, .cells [.ptr 10 2, .ptr 10 3, .ptr 10 4]), (true, .arr (.int .i64)), (true, .arr (.int .i64)), (true, .arr XIc), (true, .arr (.int .i64)), (true, .arr (.int .i64)), (true, .gone), (true, .map (.int .i64) (.int .i64) false), (true, .box [.pl XIc]), (true, .arr (.int .i64))], []⟩)]⟩,
  ⟨[16, 20, 152, 153, 154], ⟨[(true, .box [.sl 3, .pl (.int .i64), .pl (.int .i64), .sl 4, .sl 5, .sl 6, .mp 7]), (true, .cells [.ptr 8 2, .ptr 8 3, .ptr 8 4]), (true, .arr (.int .i64)), (true, .arr XIc), (true, .arr (.int .i64)), (true, .arr (.int .i64)), (true, .arr (.int .i64)), (true, .map (.int .i64) (.int .i64) false), (true, .box [.pl XIc])], [.one (.ptr 0 0), .one (.sl 1), .one (.sl 2), .one (.pl (.int .i64)), .one (.pl (.int .i64))]⟩, [7, 16, 17, 21], [(.norm, [], ⟨[(true, .box [.sl 3, .pl (.int .i64), .pl (.int .i64), .sl 4, .sl 5, .sl 6, .mp 7]), (true, .cells [.ptr 8 2, .ptr 8 3, .ptr 8 4]), (true, .arr (.int .i64)), (true, .arr XIc), (true, .arr (.int .i64)), (true, .arr (.int .i64)), (true, .arr (.int .i64)), (true, .map (.int .i64) (.int .i64) false), (true, .box [.pl XIc])], []⟩)]⟩,
  ⟨[7, 16, 17, 171, 172, 173], ⟨[(true, .box [.sl 3]), (true, .box [.sl 4, .pl (.int .i64), .pl (.int .i64), .sl 5, .sl 6, .sl 7, .mp 8]), (true, .arr (.int .i64)), (true, .arr (.int .i64)), (true, .arr XIc), (true, .arr (.int .i64)), (true, .arr (.int .i64)), (false, .arr (.int .i64)), (true, .map (.int .i64) (.int .i64) false)], [.one (.ptr 0 0), .one (.ptr 1 0), .one (.pl (.int .i64)), .one (.sl 2), .one (.pl (.int .i64)), .one (.pl (.int .i64))]⟩, [], [(.norm, [], ⟨[(true, .box [.sl 3]), (true, .box [.sl 4, .pl (.int .i64), .pl (.int .i64), .sl 5, .sl 6, .sl 9, .mp 8]), (true, .arr (.int .i64)), (true, .arr (.int .i64)), (true, .arr XIc), (true, .arr (.int .i64)), (true, .arr (.int .i64)), (true, .gone), (true, .map (.int .i64) (.int .i64) false), (true, .arr (.int .i64))], []⟩)]⟩,
  ⟨[11, 16, 252, 253], ⟨[(true, .map (.int .i64) (.int .i64) false), (true, .box [.sl 2, .pl (.int .i64), .pl (.int .i64), .sl 3, .sl 4, .sl 5, .mp 6]), (false, .arr XIc), (true, .arr (.int .i64)), (true, .arr (.int .i64)), (true, .arr (.int .i64)), (true, .map (.int .i64) (.int .i64) false)], [.one (.mp 0), .one (.ptr 1 0), .one (.pl (.int .i64)), .one (.pl (.int .i64))]⟩, [1, 2, 4, 5, 16], [(.norm, [], ⟨[(true, .map (.int .i64) (.int .i64) false), (true, .box [.sl 7, .pl (.int .i64), .pl (.int .i64), .sl 3, .sl 4, .sl 5, .mp 6]), (true, .gone), (true, .arr (.int .i64)), (true, .arr (.int .i64)), (true, .arr (.int .i64)), (true, .map (.int .i64) (.int .i64) false), (true, .arr XIc)], []⟩)]⟩,
  ⟨[2, 16, 283, 284, 285], ⟨[(true, .box [.pl XTc]), (true, .box [.sl 2, .pl (.int .i64), .pl (.int .i64), .sl 3, .sl 4, .sl 5, .mp 6]), (true, .arr XIc), (false, .arr (.int .i64)), (true, .arr (.int .i64)), (true, .arr (.int .i64)), (true, .map (.int .i64) (.int .i64) false)], [.one (.ptr 0 0), .one (.ptr 1 0), .one (.pl (.list (.int .i64))), .one (.pl (.int .i64)), .one (.pl (.int .i64))]⟩, [4, 5, 16], [(.norm, [], ⟨[(true, .box [.pl XTc]), (true, .box [.sl 2, .pl (.int .i64), .pl (.int .i64), .sl 7, .sl 4, .sl 5, .mp 6]), (true, .arr XIc), (true, .gone), (true, .arr (.int .i64)), (true, .arr (.int .i64)), (true, .map (.int .i64) (.int .i64) false), (true, .arr (.int .i64))], []⟩)]⟩,
  noBlk,
  ⟨[1, 3, 4], ⟨[(true, .box [.pl XCc]), (true, .box [.sl 2, .pl (.int .i64), .pl (.int .i64), .pl (.list (.int .i64)), .pl (.list (.int .i64))]), (false, .arr XIc)], [.one (.ptr 0 0), .one (.ptr 1 0), .one (.pl (.int .i64))]⟩, [2, 3], [(.norm, [], ⟨[(true, .box [.pl XCc]), (true, .box [.sl 3, .pl (.int .i64), .pl (.int .i64), .pl (.list (.int .i64)), .pl (.list (.int .i64))]), (true, .gone), (true, .arr XIc)], []⟩)]⟩,
  ⟨[1, 3, 4, 5, 6], ⟨[(true, .box [.pl XCc]), (true, .arr .bool), (true, .arr .bool)], [.one (.ptr 0 0), .one (.sl 1), .one (.sl 2), .one (.pl .bool), .one (.pl (.int .i64))]⟩, [1, 3], [(.ret, [2], ⟨[(true, .box [.pl XCc]), (true, .arr .bool), (true, .arr .bool)], [.one (.pl (.int .i64))]⟩), (.norm, [], ⟨[(true, .box [.pl XCc]), (true, .arr .bool), (true, .arr .bool)], []⟩)]⟩,
  ⟨[3, 8, 10], ⟨[(true, .arr .bool), (true, .arr (.int .i64))], [.one (.sl 0), .one (.sl 1), .one (.pl (.int .i64))]⟩, [1, 3, 4, 5, 6, 7], [(.ret, [2], ⟨[(true, .arr .bool), (true, .arr (.int .i64))], [.one (.pl (.int .i64))]⟩), (.norm, [], ⟨[(true, .arr .bool), (true, .arr (.int .i64))], []⟩)]⟩,
  ⟨[1, 3, 11], ⟨[(true, .box [.pl XCc]), (true, .arr .bool)], [.one (.ptr 0 0), .one (.sl 1), .one (.pl (.int .i64))]⟩, [], [(.ret, [2], ⟨[(true, .box [.pl XCc]), (true, .arr .bool)], [.one (.pl (.int .i64))]⟩), (.norm, [], ⟨[(true, .box [.pl XCc]), (true, .arr .bool)], []⟩)]⟩,
  noBlk,
  ⟨[1, 2, 5], ⟨[(true, .box [.pl XCc])], [.one (.pl (.list (.int .i64))), .one (.ptr 0 0), .one (.pl (.int .i64))]⟩, [], [(.ret, [4], ⟨[(true, .box [.pl XCc])], [.one (.pl .bool)]⟩), (.norm, [], ⟨[(true, .box [.pl XCc])], []⟩)]⟩,
  noBlk,
  noBlk,
  noBlk,
  ⟨[2, 4], ⟨[(true, .arr (.int .i64)), (true, .box [.pl XIc])], [.one (.sl 0), .one (.ptr 1 0)]⟩, [], [(.ret, [8, 9], ⟨[(true, .arr (.int .i64)), (true, .box [.pl XIc])], [.one (.pl (.int .i64)), .one (.pl (.int .i64))]⟩)]⟩,
  ⟨[2, 10, 12, 13], ⟨[(true, .arr (.int .i64)), (true, .arr (.int .i64)), (true, .arr (.int .i64))], [.one (.sl 0), .one (.sl 1), .one (.sl 2), .one (.pl (.int .i64))]⟩, [4, 8, 9, 12], [(.norm, [], ⟨[(true, .arr (.int .i64)), (true, .arr (.int .i64)), (true, .arr (.int .i64))], []⟩)]⟩,
  noBlk,
  noBlk,
  noBlk,
  noBlk,
  ⟨[2, 3, 4, 9, 10, 11, 12], ⟨[(true, .box [.pl XCc]), (true, .box [.pl (.prod (.list (.int .i64)) .bool)]), (true, .arr (.int .i64)), (true, .box [.sl 4, .pl .bool]), (true, .arr (.int .i64))], [.one (.pl (.list (.int .i64))), .one (.ptr 0 0), .one (.ptr 1 0), .one (.sl 2), .one (.ptr 3 0), .one (.pl (.int .i64)), .one (.pl (.int .i64))]⟩, [3, 4, 6, 7, 8, 9, 10], [(.norm, [11], ⟨[(true, .box [.pl XCc]), (true, .box [.pl (.prod (.list (.int .i64)) .bool)]), (true, .arr (.int .i64)), (true, .box [.sl 4, .pl .bool]), (true, .arr (.int .i64))], [.one (.pl (.int .i64))]⟩)]⟩,
  ⟨[3, 9, 16, 17], ⟨[(true, .box [.pl XCc]), (true, .arr (.int .i64)), (false, .arr (.int .i64))], [.one (.ptr 0 0), .one (.sl 1), .one (.sl 2), .one (.pl (.int .i64))]⟩, [6, 7, 8, 10], [(.norm, [16], ⟨[(true, .box [.pl XCc]), (true, .arr (.int .i64)), (true, .gone), (true, .arr (.int .i64))], [.one (.sl 3)]⟩)]⟩,
  noBlk,
  ⟨[1, 2, 7, 8, 9], ⟨[(true, .box [.pl XCc]), (true, .box [.pl (.prod (.list (.int .i64)) .bool)]), (false, .arr (.list (.int .i64)))], [.one (.pl (.list (.list (.int .i64)))), .one (.ptr 0 0), .one (.ptr 1 0), .one (.sl 2), .one (.pl (.int .i64))]⟩, [], [(.ret, [4, 5], ⟨[(true, .box [.pl XCc]), (true, .box [.pl (.prod (.list (.int .i64)) .bool)]), (true, .gone), (true, .arr (.list (.int .i64)))], [.one (.sl 3), .one (.pl (.int .i64))]⟩), (.norm, [8], ⟨[(true, .box [.pl XCc]), (true, .box [.pl (.prod (.list (.int .i64)) .bool)]), (true, .gone), (true, .arr (.list (.int .i64)))], [.one (.sl 3)]⟩)]⟩,
  ⟨[7, 8, 10, 11, 12], ⟨[(true, .box [.pl (.prod (.list (.int .i64)) .bool)]), (true, .arr (.list (.int .i64))), (true, .arr (.int .i64)), (true, .box [.pl (.prod (.list (.int .i64)) .bool)])], [.one (.ptr 0 0), .one (.sl 1), .one (.sl 2), .one (.ptr 3 0), .one (.pl (.int .i64))]⟩, [1, 2, 7, 9], [(.ret, [4, 5], ⟨[(true, .box [.pl (.prod (.list (.int .i64)) .bool)]), (true, .arr (.list (.int .i64))), (true, .arr (.int .i64)), (true, .box [.pl (.prod (.list (.int .i64)) .bool)])], [.one (.sl 1), .one (.pl (.int .i64))]⟩), (.norm, [8], ⟨[(true, .box [.pl (.prod (.list (.int .i64)) .bool)]), (true, .gone), (true, .gone), (true, .box [.pl (.prod (.list (.int .i64)) .bool)]), (true, .arr (.list (.int .i64)))], [.one (.sl 4)]⟩)]⟩,
  ⟨[1, 3, 4, 36, 37, 38], ⟨[(true, .box [.pl XCc]), (true, .box [.mp 3]), (true, .map (.int .i64) .bool false), (true, .map (.int .i64) .bool false)], [.one (.ptr 0 0), .one (.ptr 1 0), .one (.mp 2), .one (.pl (.list XIc)), .one (.pl (.int .i64)), .one (.pl (.int .i64))]⟩, [1, 3], [(.ret, [2], ⟨[(true, .box [.pl XCc]), (true, .box [.mp 3]), (true, .map (.int .i64) .bool false), (true, .map (.int .i64) .bool false)], [.one (.pl (.int .i64))]⟩), (.norm, [], ⟨[(true, .box [.pl XCc]), (true, .box [.mp 3]), (true, .map (.int .i64) .bool false), (true, .map (.int .i64) .bool false)], []⟩)]⟩,
  ⟨[3, 56, 57, 58], ⟨[(true, .box [.mp 2]), (true, .arr (.int .i64)), (true, .map (.int .i64) .bool false)], [.one (.ptr 0 0), .one (.sl 1), .one (.pl (.int .i64)), .one (.pl (.int .i64))]⟩, [1, 3, 4, 6, 36, 37, 38], [(.ret, [2], ⟨[(true, .box [.mp 2]), (true, .arr (.int .i64)), (true, .map (.int .i64) .bool false)], [.one (.pl (.int .i64))]⟩), (.norm, [], ⟨[(true, .box [.mp 2]), (true, .arr (.int .i64)), (true, .map (.int .i64) .bool false)], []⟩)]⟩,
  ⟨[0, 1, 7, 8], ⟨[(true, .box [.mp 1]), (true, .map (.int .i64) .bool false)], [.one (.pl (.list (.int .i64))), .one (.fn 26 [] [some 0]), .one (.pl (.int .i64)), .one (.pl (.int .i64))]⟩, [], [(.ret, [4], ⟨[(true, .box [.mp 1]), (true, .map (.int .i64) .bool false)], [.one (.pl (.int .i64))]⟩), (.norm, [], ⟨[(true, .box [.mp 1]), (true, .map (.int .i64) .bool false)], []⟩)]⟩,
  ⟨[0, 1, 5], ⟨[], [.one (.pl (.list (.list (.int .i64)))), .one (.pl (.list (.list (.int .i64)))), .one (.pl (.int .i64))]⟩, [], [(.ret, [4], ⟨[], [.one (.pl .bool)]⟩), (.norm, [], ⟨[], []⟩)]⟩,
  ⟨[0, 1, 5], ⟨[], [.one (.pl (.list (.int .i64))), .one (.pl (.list (.int .i64))), .one (.pl (.int .i64))]⟩, [], [(.ret, [4], ⟨[], [.one (.pl .bool)]⟩), (.norm, [], ⟨[], []⟩)]⟩,
  noBlk,
  ⟨[1, 3, 4], ⟨[(true, .box [.pl XCc]), (true, .box [.sl 2, .pl (.int .i64), .pl (.int .i64), .pl (.list (.int .i64)), .pl (.list (.int .i64))]), (false, .arr XIc)], [.one (.ptr 0 0), .one (.ptr 1 0), .one (.pl (.int .i64))]⟩, [2, 3], [(.norm, [], ⟨[(true, .box [.pl XCc]), (true, .box [.sl 3, .pl (.int .i64), .pl (.int .i64), .pl (.list (.int .i64)), .pl (.list (.int .i64))]), (true, .gone), (true, .arr XIc)], []⟩)]⟩,
  ⟨[0, 5], ⟨[], [.one (.pl (.list (.prod .str (.prod (.int .i64) (.list (.prod (.int .i64) (.prod (.int .i64) (.prod (.int .i64) (.prod (.int .i64) (.prod (.int .i64) .str)))))))))), .one (.pl (.int .i64))]⟩, [1], [(.ret, [4], ⟨[], [.one (.pl .bool)]⟩), (.norm, [], ⟨[], []⟩)]⟩,
  ⟨[1, 6], ⟨[], [.one (.pl (.list (.list (.int .i64)))), .one (.pl (.int .i64))]⟩, [], [(.ret, [4], ⟨[], [.one (.pl .bool)]⟩), (.norm, [], ⟨[], []⟩)]⟩,
  ⟨[1, 3], ⟨[(true, .box [.pl XTc])], [.one (.ptr 0 0), .one (.pl (.int .i64))]⟩, [1], [(.ret, [2], ⟨[(true, .box [.pl XTc])], [.one (.pl .bool)]⟩), (.norm, [], ⟨[(true, .box [.pl XTc])], []⟩)]⟩,
  ⟨[1, 6], ⟨[(true, .box [.pl XTc])], [.one (.ptr 0 0), .one (.pl (.int .i64))]⟩, [], [(.ret, [2], ⟨[(true, .box [.pl XTc])], [.one (.pl .bool)]⟩), (.norm, [], ⟨[(true, .box [.pl XTc])], []⟩)]⟩,
  noBlk,
  noBlk,
  noBlk,
  ⟨[1, 3, 4], ⟨[(true, .box [.pl XTc]), (true, .arr .bool), (false, .arr (.int .i64))], [.one (.ptr 0 0), .one (.sl 1), .one (.sl 2)]⟩, [], [(.ret, [2], ⟨[(true, .box [.pl XTc]), (true, .arr .bool), (true, .gone), (true, .arr (.int .i64))], [.one (.sl 3)]⟩)]⟩,
  ⟨[1, 3, 5, 6], ⟨[(true, .box [.pl XTc]), (true, .arr .bool)], [.one (.ptr 0 0), .one (.sl 1), .one (.pl (.int .i64)), .one (.pl (.int .i64))]⟩, [1, 2, 3, 4], [(.norm, [5], ⟨[(true, .box [.pl XTc]), (true, .arr .bool)], [.one (.pl (.int .i64))]⟩)]⟩,
  ⟨[3, 7, 8, 9], ⟨[(true, .arr .bool), (true, .arr (.int .i64))], [.one (.sl 0), .one (.pl .bool), .one (.sl 1), .one (.pl (.int .i64))]⟩, [1, 3, 5, 6], [(.norm, [7], ⟨[(true, .arr .bool), (true, .arr (.int .i64))], [.one (.pl .bool)]⟩)]⟩,
  ⟨[1, 3, 9, 10], ⟨[(true, .box [.pl XTc])], [.one (.pl (.list (.int .i64))), .one (.ptr 0 0), .one (.pl (.int .i64)), .one (.pl (.int .i64))]⟩, [1, 2, 3, 6, 7, 8], [(.norm, [9], ⟨[(true, .box [.pl XTc])], [.one (.pl (.int .i64))]⟩)]⟩,
  noBlk,
  ⟨[1, 2, 5], ⟨[(true, .box [.pl XTc])], [.one (.pl (.list (.int .i64))), .one (.ptr 0 0), .one (.pl (.int .i64))]⟩, [], [(.ret, [4], ⟨[(true, .box [.pl XTc])], [.one (.pl .bool)]⟩), (.norm, [], ⟨[(true, .box [.pl XTc])], []⟩)]⟩,
  noBlk,
  noBlk,
  noBlk,
  ⟨[2, 4], ⟨[(true, .arr (.int .i64)), (true, .box [.pl XOc])], [.one (.sl 0), .one (.ptr 1 0)]⟩, [], [(.ret, [8, 9], ⟨[(true, .arr (.int .i64)), (true, .box [.pl XOc])], [.one (.pl (.int .i64)), .one (.pl (.int .i64))]⟩)]⟩,
  ⟨[2, 10, 11, 12], ⟨[(true, .arr (.int .i64)), (true, .arr (.int .i64)), (true, .arr (.int .i64))], [.one (.sl 0), .one (.sl 1), .one (.sl 2), .one (.pl (.int .i64))]⟩, [4, 8, 9, 11], [(.norm, [], ⟨[(true, .arr (.int .i64)), (true, .arr (.int .i64)), (true, .arr (.int .i64))], []⟩)]⟩,
  noBlk,
  noBlk,
  noBlk,
  noBlk,
  ⟨[1, 2, 7, 8, 9, 10], ⟨[(true, .box [.pl XTc]), (true, .arr (.int .i64)), (false, .arr (.list (.int .i64)))], [.one (.pl (.list (.list (.int .i64)))), .one (.ptr 0 0), .one (.sl 1), .one (.sl 2), .one (.pl (.list (.int .i64))), .one (.pl (.int .i64))]⟩, [], [(.ret, [4, 5], ⟨[(true, .box [.pl XTc]), (true, .arr (.int .i64)), (true, .gone), (true, .arr (.list (.int .i64)))], [.one (.sl 3), .one (.pl (.int .i64))]⟩), (.norm, [8], ⟨[(true, .box [.pl XTc]), (true, .arr (.int .i64)), (true, .gone), (true, .arr (.list (.int .i64)))], [.one (.sl 3)]⟩)]⟩,
  ⟨[1, 2, 7, 9, 10, 11, 12, 13], ⟨[(true, .box [.pl XTc]), (true, .arr (.int .i64)), (true, .arr (.int .i64))], [.one (.pl (.list (.list (.int .i64)))), .one (.ptr 0 0), .one (.sl 1), .one (.pl (.list (.int .i64))), .one (.pl (.int .i64)), .one (.sl 2), .one (.pl (.int .i64)), .one (.pl (.int .i64))]⟩, [1, 2, 4, 5, 7, 8, 9, 10, 11], [(.norm, [12], ⟨[(true, .box [.pl XTc]), (true, .arr (.int .i64)), (true, .arr (.int .i64))], [.one (.pl (.int .i64))]⟩)]⟩,
  ⟨[2, 11, 16, 17], ⟨[(true, .box [.pl XTc]), (true, .arr (.int .i64)), (false, .arr (.int .i64))], [.one (.ptr 0 0), .one (.sl 1), .one (.sl 2), .one (.pl (.int .i64))]⟩, [1, 2, 4, 5, 7, 8, 9, 10, 11], [(.norm, [16], ⟨[(true, .box [.pl XTc]), (true, .arr (.int .i64)), (true, .gone), (true, .arr (.int .i64))], [.one (.sl 3)]⟩)]⟩,
  ⟨[1, 12, 14, 16], ⟨[(true, .arr (.list (.int .i64))), (true, .arr (.list (.int .i64)))], [.one (.pl (.list (.int .i64))), .one (.sl 0), .one (.sl 1), .one (.pl (.int .i64))]⟩, [], [(.ret, [6], ⟨[(true, .arr (.list (.int .i64))), (true, .arr (.list (.int .i64)))], [.one (.pl .bool)]⟩), (.norm, [], ⟨[(true, .arr (.list (.int .i64))), (true, .arr (.list (.int .i64)))], []⟩)]⟩,
  ⟨[1, 12, 14, 16, 17], ⟨[(true, .arr (.list (.int .i64))), (true, .arr (.list (.int .i64)))], [.one (.pl (.list (.int .i64))), .one (.sl 0), .one (.sl 1), .one (.pl (.int .i64)), .one (.pl (.int .i64))]⟩, [1, 12, 14, 16], [(.ret, [6], ⟨[(true, .arr (.list (.int .i64))), (true, .arr (.list (.int .i64)))], [.one (.pl .bool)]⟩), (.norm, [], ⟨[(true, .arr (.list (.int .i64))), (true, .arr (.list (.int .i64)))], []⟩)]⟩,
  ⟨[2, 7, 8], ⟨[(true, .box [.pl XTc])], [.one (.ptr 0 0), .one (.pl (.int .i64)), .one (.pl (.int .i64))]⟩, [1, 2, 4, 5], [(.norm, [7], ⟨[(true, .box [.pl XTc])], [.one (.pl (.int .i64))]⟩)]⟩,
  ⟨[1, 11, 13, 15], ⟨[(true, .arr (.list (.int .i64))), (true, .arr (.list (.int .i64)))], [.one (.pl (.list (.int .i64))), .one (.sl 0), .one (.sl 1), .one (.pl (.int .i64))]⟩, [], [(.ret, [6], ⟨[(true, .arr (.list (.int .i64))), (true, .arr (.list (.int .i64)))], [.one (.pl .bool)]⟩), (.norm, [], ⟨[(true, .arr (.list (.int .i64))), (true, .arr (.list (.int .i64)))], []⟩)]⟩]
  lkL := [(3, [(0, 1)]), (4, [(0, 194), (2, 195), (4, 196), (6, 199), (8, 200), (10, 201), (12, 202)]), (5, [(0, 51), (2, 52), (6, 53)]), (6, [(0, 36), (2, 37), (4, 38), (6, 39)]), (9, [(0, 2)]), (11, [(0, 3)]), (17, [(0, 4)]), (21, [(0, 5)]), (23, [(0, 11), (2, 12), (4, 13)]), (25, [(0, 16)]), (26, [(0, 15)]), (31, [(0, 18)]), (35, [(0, 22)]), (38, [(0, 60), (2, 61)]), (39, [(0, 54)]), (41, [(0, 55)]), (43, [(0, 59)]), (49, [(0, 204)]), (50, [(0, 222)]), (51, [(0, 205), (2, 206), (4, 207)]), (59, [(0, 219), (2, 220)]), (60, [(0, 209)]), (61, [(1, 214)]), (67, [(0, 224), (2, 225)]), (70, [(0, 226)]), (72, [(0, 227)]), (73, [(0, 228)]), (74, [(0, 230)]), (75, [(0, 241), (2, 256), (4, 257)]), (77, [(0, 231), (2, 232)]), (79, [(0, 233), (2, 234)]), (83, [(0, 238), (2, 239), (4, 240)]), (85, [(0, 253), (2, 254), (4, 255)]), (86, [(0, 243)]), (87, [(1, 248)]), (88, [(0, 258)]), (89, [(0, 259)])]
  tkL := [(4, [(46, 197), (33, 198)]), (43, [(3, 58)]), (50, [(10, 223)]), (61, [(13, 213)]), (87, [(15, 247)])]
  dkL := [(0, [(3, ([], (.take 0 (.take 3 (.only 1 (.only 2 (.only 4 (.take 5 (.take 6 (.only 7 (.take 8 (.take 9 .done))))))))))))]),
  (4, [(32, ([], (.take 0 (.take 1 (.take 2 (.take 3 (.take 4 (.take 5 (.take 7 (.take 8 (.alt 6 (.only 9 (.take 10 (.take 11 (.take 12 .done)))) (.only 9 (.take 10 (.only 6 (.take 11 (.take 12 .done)))))))))))))))), (36, ([20], (.take 0 (.take 1 (.take 2 (.take 4 (.take 5 (.take 6 (.take 7 (.take 8 (.take 9 (.only 3 (.take 10 (.only 11 .done)))))))))))))), (48, ([16], (.take 0 (.take 1 (.take 2 (.take 3 (.take 5 (.take 6 (.alt 4 (.only 7 (.only 8 (.take 9 (.take 10 (.only 11 .done))))) (.only 7 (.only 4 (.only 8 (.take 9 (.take 10 (.only 11 .done))))))))))))))), (49, ([16], (.take 0 (.take 1 (.take 2 (.take 4 (.take 5 (.take 6 (.only 3 (.only 7 .done)))))))))), (50, ([16], (.take 0 (.take 1 (.take 2 (.take 3 (.take 4 (.take 6 (.alt 5 (.only 7 (.only 8 (.take 9 (.take 10 (.take 11 (.only 12 .done)))))) (.only 7 (.only 5 (.only 8 (.take 9 (.take 10 (.take 11 (.only 12 .done)))))))))))))))), (57, ([16], (.take 0 (.take 1 (.take 2 (.take 3 (.take 4 (.take 6 (.take 7 (.take 8 (.take 10 (.take 12 (.alt 5 (.only 9 (.only 11 (.take 13 (.only 14 (.only 15 (.take 16 (.take 17 (.take 18 (.only 19 .done))))))))) (.only 9 (.alt 5 (.only 11 (.take 13 (.only 14 (.only 15 (.take 16 (.take 17 (.take 18 (.only 19 .done)))))))) (.only 11 (.take 13 (.alt 5 (.only 14 (.only 15 (.take 16 (.take 17 (.take 18 (.only 19 .done)))))) (.only 14 (.only 5 (.only 15 (.take 16 (.take 17 (.take 18 (.only 19 .done))))))))))))))))))))))))), (62, ([16], (.take 0 (.take 1 (.take 2 (.take 3 (.take 4 (.take 6 (.take 7 (.take 8 (.take 10 (.take 11 (.take 12 (.take 13 (.take 14 (.alt 5 (.only 9 (.only 15 (.only 16 (.only 17 (.take 18 (.take 19 (.take 20 (.only 21 .done)))))))) (.only 9 (.alt 5 (.only 15 (.only 16 (.only 17 (.take 18 (.take 19 (.take 20 (.only 21 .done))))))) (.only 15 (.alt 5 (.only 16 (.only 17 (.take 18 (.take 19 (.take 20 (.only 21 .done)))))) (.only 16 (.only 5 (.only 17 (.take 18 (.take 19 (.take 20 (.only 21 .done)))))))))))))))))))))))))))]),
  (5, [(26, ([9], (.take 0 (.take 2 (.take 3 (.take 4 (.take 5 (.alt 1 (.only 6 (.only 7 (.take 8 (.only 9 .done)))) (.only 6 (.only 1 (.only 7 (.take 8 (.only 9 .done)))))))))))))]),
  (12, [(3, ([], (.take 0 (.take 1 (.take 2 (.take 3 (.take 4 (.take 5 (.take 6 (.take 7 .done))))))))))]),
  (29, [(0, ([0], (.take 0 (.take 1 (.take 2 (.take 4 (.alt 3 (.only 5 (.only 6 (.only 7 (.take 8 (.only 9 .done))))) (.only 5 (.alt 3 (.only 6 (.only 7 (.take 8 (.only 9 .done)))) (.only 6 (.only 3 (.only 7 (.take 8 (.only 9 .done))))))))))))))]),
  (32, [(1, ([], (.take 0 (.take 1 (.take 2 (.take 3 (.take 4 (.take 5 (.take 6 (.take 7 (.take 8 (.take 9 .done))))))))))))]),
  (33, [(0, ([0], (.take 0 (.take 1 (.take 2 (.take 3 (.take 4 (.take 5 (.take 6 (.take 8 (.take 9 (.take 10 (.alt 7 (.only 11 (.take 12 (.only 13 (.take 14 (.only 15 .done))))) (.only 11 (.only 7 (.take 12 (.only 13 (.take 14 (.only 15 .done)))))))))))))))))))]),
  (43, [(9, ([7], (.take 0 (.take 1 (.take 2 (.take 3 (.take 4 (.take 5 (.take 6 (.only 7 (.take 8 (.take 9 .done))))))))))))]),
  (50, [(9, ([], (.take 0 (.take 1 (.take 2 (.take 3 (.take 4 (.take 5 (.alt 6 (.take 7 (.take 8 (.take 9 (.take 10 (.only 11 (.take 12 (.only 13 (.take 14 .done)))))))) (.only 11 (.only 6 (.take 7 (.take 8 (.take 9 (.take 10 (.take 12 (.only 13 (.take 14 .done))))))))))))))))))]),
  (59, [(2, ([7], (.take 0 (.take 1 (.only 2 (.take 3 .done)))))), (11, ([10], (.take 0 (.take 2 (.take 3 (.take 4 (.take 5 (.take 6 (.take 7 (.take 8 (.only 1 (.take 9 (.only 10 .done))))))))))))), (17, ([7], (.take 0 (.take 1 (.take 2 (.only 3 (.take 4 .done))))))), (23, ([7], (.take 0 (.take 1 (.take 2 (.only 3 (.take 4 .done)))))))]),
  (61, [(19, ([], (.take 0 (.take 1 (.take 2 (.take 3 (.take 4 (.take 5 (.take 6 (.take 7 (.take 8 (.take 9 (.take 10 (.only 11 (.take 12 (.take 13 (.take 14 (.take 15 .done))))))))))))))))))]),
  (65, [(1, ([], (.take 0 (.take 2 (.take 5 (.take 7 (.only 1 (.only 3 (.take 4 (.only 6 (.only 8 (.take 9 (.take 10 (.take 11 .done))))))))))))))]),
  (67, [(9, ([], (.take 0 (.take 1 (.take 2 (.take 3 (.take 4 (.take 5 (.take 7 (.take 8 (.take 12 (.alt 6 (.only 9 (.take 10 (.take 11 .done))) (.only 9 (.only 6 (.take 10 (.take 11 .done))))))))))))))))]),
  (72, [(6, ([], (.take 0 (.take 1 (.take 2 (.take 3 (.take 4 (.take 5 (.take 6 (.take 7 (.only 8 (.take 9 .done))))))))))))]),
  (73, [(6, ([], (.take 0 (.take 1 (.take 2 (.take 3 (.take 4 (.take 5 (.take 6 (.take 7 (.take 8 .done)))))))))))]),
  (75, [(8, ([], (.take 0 (.take 1 (.take 2 (.take 3 (.take 4 (.take 5 (.take 6 (.take 7 (.take 8 (.take 9 (.take 10 (.take 11 (.take 12 (.take 13 (.take 14 .done))))))))))))))))), (27, ([], (.take 0 (.take 1 (.take 2 (.take 3 (.take 4 (.take 5 (.take 6 (.take 7 (.take 8 (.take 9 (.take 10 (.take 11 (.take 12 (.take 13 (.take 14 (.take 15 (.take 16 (.take 17 .done))))))))))))))))))))]),
  (78, [(3, ([], (.take 0 (.take 3 (.take 4 (.take 5 (.only 1 (.take 2 (.take 6 .done)))))))))]),
  (79, [(13, ([], (.take 0 (.take 1 (.take 2 (.take 3 (.take 4 (.take 5 (.take 6 (.take 7 (.take 8 (.take 9 (.take 10 (.take 11 (.take 12 (.take 13 (.take 14 (.take 15 (.take 16 .done)))))))))))))))))))]),
  (85, [(10, ([], (.take 0 (.take 1 (.take 2 (.take 3 (.take 4 (.only 5 (.take 6 .done))))))))), (17, ([11], (.take 0 (.take 1 (.take 2 (.take 3 (.take 4 (.take 5 (.take 6 (.take 7 (.take 8 (.take 9 (.take 10 (.take 11 (.take 12 (.take 13 (.only 14 (.take 15 (.take 16 (.take 17 (.take 18 (.take 19 .done))))))))))))))))))))))]),
  (87, [(21, ([], (.take 0 (.take 1 (.take 2 (.take 3 (.take 4 (.take 5 (.take 6 (.take 7 (.take 8 (.take 9 (.take 10 (.only 11 (.take 12 (.take 13 (.take 14 (.take 15 .done))))))))))))))))))])]
  fnumL := [3, 8, 9, 16, 15, 31, 47, 58, 71, 82, 68, 69, 79, 80, 43, 78, 25, 44, 81, 42, 25, 44, 70, 72, 50, 63, 44, 64, 59, 103, 99, 73, 100, 101, 60, 74, 102, 34, 32, 48, 25, 44, 61, 49, 62, 76, 33, 35, 24, 18, 20, 12, 27, 45, 28, 29, 46, 30, 40, 41, 56, 57, 55, 65, 66, 67, 77, 10, 23, 25, 44, 26, 22, 21, 11, 4, 13, 14, 17, 36, 51, 52, 53, 37, 54, 19, 38, 39, 5, 6, 7]
  fnL := [Try.f3, Try.f8, Try.f9, Try.f16, Try.f15, Try.f31, Try.f47, Try.f58, Try.f71, Try.f82, Try.f68, Try.f69, Try.f79, Try.f80, Try.f43, Try.f78, Try.f25, Try.f44, Try.f81, Try.f42, Try.f25, Try.f44, Try.f70, Try.f72, Try.f50, Try.f63, Try.f44, Try.f64, Try.f59, Try.f103, Try.f99, Try.f73, Try.f100, Try.f101, Try.f60, Try.f74, Try.f102, Try.f34, Try.f32, Try.f48, Try.f25, Try.f44, Try.f61, Try.f49, Try.f62, Try.f76, Try.f33, Try.f35, Try.f24, Try.f18, Try.f20, Try.f12, Try.f27, Try.f45, Try.f28, Try.f29, Try.f46, Try.f30, Try.f40, Try.f41, Try.f56, Try.f57, Try.f55, Try.f65, Try.f66, Try.f67, Try.f77, Try.f10, Try.f23, Try.f25, Try.f44, Try.f26, Try.f22, Try.f21, Try.f11, Try.f4, Try.f13, Try.f14, Try.f17, Try.f36, Try.f51, Try.f52, Try.f53, Try.f37, Try.f54, Try.f19, Try.f38, Try.f39, Try.f5, Try.f6, Try.f7]
  placeL := [(0, []), (3, [true, true, false, true]), (9, [true, false, true]), (11, [true, true, true, false, true]), (17, [true, false, true]), (21, [true, false, true]), (0, []), (0, []), (0, []), (0, []), (0, []), (23, [true, true, false, true]), (23, [true, true, false, true, false, false, true, true, false, false, true, true]), (23, [true, true, false, true, false, false, true, true, false, false, true, true, false, false, true, false, true, true, true, true, true, true]), (0, []), (26, [true, false, true]), (25, [true, true, true, false, true]), (0, []), (31, []), (0, []), (0, []), (0, []), (35, [true, true, false]), (0, []), (0, []), (0, []), (0, []), (0, []), (0, []), (0, []), (0, []), (0, []), (0, []), (0, []), (0, []), (0, []), (6, [true, true, true, true, true, false, true]), (6, [true, true, true, true, true, false, true, false, false, true, true, false, false, true, false, true]), (6, [true, true, true, true, true, true, true, false]), (6, [true, true, true, true, true, true, true, false, false, false, true, false, true, true, true]), (0, []), (0, []), (0, []), (0, []), (0, []), (0, []), (0, []), (0, []), (0, []), (0, []), (0, []), (5, [true, true, true, true, false, true]), (5, [true, true, true, true, true, true, false, true]), (5, [true, true, true, true, true, true, true, false, true]), (39, [true, true, false, true]), (41, [true, false, true]), (0, []), (0, []), (43, [true, true]), (43, [true, true, true, true, true, true, false]), (38, [true, true, true, false, true]), (38, [true, true, true, false, true, false, false, true, true, false, false, true, true]), (0, []), (0, []), (0, []), (0, []), (0, []), (0, []), (0, []), (0, []), (0, []), (0, []), (0, []), (0, []), (0, []), (0, []), (0, []), (0, []), (0, []), (0, []), (0, []), (0, []), (0, []), (0, []), (0, []), (0, []), (0, []), (0, []), (0, []), (0, []), (0, []), (0, []), (0, []), (0, []), (0, []), (0, []), (0, []), (0, []), (0, []), (0, []), (0, []), (0, []), (0, []), (0, []), (0, []), (0, []), (0, []), (0, []), (0, []), (0, []), (0, []), (0, []), (0, []), (0, []), (0, []), (0, []), (0, []), (0, []), (0, []), (0, []), (0, []), (0, []), (0, []), (0, []), (0, []), (0, []), (0, []), (0, []), (0, []), (0, []), (0, []), (0, []), (0, []), (0, []), (0, []), (0, []), (0, []), (0, []), (0, []), (0, []), (0, []), (0, []), (0, []), (0, []), (0, []), (0, []), (0, []), (0, []), (0, []), (0, []), (0, []), (0, []), (0, []), (0, []), (0, []), (0, []), (0, []), (0, []), (0, []), (0, []), (0, []), (0, []), (0, []), (0, []), (0, []), (0, []), (0, []), (0, []), (0, []), (0, []), (0, []), (0, []), (0, []), (0, []), (0, []), (0, []), (0, []), (0, []), (0, []), (0, []), (0, []), (0, []), (0, []), (0, []), (0, []), (0, []), (0, []), (0, []), (0, []), (0, []), (0, []), (0, []), (0, []), (0, []), (4, [true, true, true, true, true, false, true]), (4, [true, true, true, true, true, true, true, false, true]), (4, [true, true, true, true, true, true, true, true, true, true, false, true]), (4, [true, true, true, true, true, true, true, true, true, true, false, true, false, false, true, true, false, false, true, true, true]), (4, [true, true, true, true, true, true, true, true, true, true, false, true, false, false, true, true, false, false, true, true, false, true, true, true, true]), (4, [true, true, true, true, true, true, true, true, true, true, false, true, false, false, true, true, false, false, true, true, false, true, true, true, true, false, true]), (4, [true, true, true, true, true, true, true, true, true, true, false, true, false, false, true, true, false, false, true, true, false, true, true, true, true, true, true]), (4, [true, true, true, true, true, true, true, true, true, true, true, false, true]), (4, [true, true, true, true, true, true, true, true, true, true, true, true, false, true]), (0, []), (49, [true, true, false, true]), (51, [true, true, true, true, true, false, true]), (51, [true, true, true, true, true, false, true, false, false, true, false, false, true, true, true, false, true]), (51, [true, true, true, true, true, true, false, true]), (0, []), (60, [true, true, false, true]), (0, []), (0, []), (0, []), (61, [true, true]), (61, [true, true, true, true, false, true]), (0, []), (0, []), (0, []), (0, []), (59, [true, true, true, true, true, false, true]), (59, [true, true, true, true, true, true, true, true, false, true]), (0, []), (50, [true, true, true, true, true, false, true]), (50, [true, true, true, true, true, false, true, false, false, true, false, false, true]), (67, [true, true, true, false, true]), (67, [true, true, true, false, true, false, false, true, true, false, false, true, true, false, true]), (70, [true, false, true]), (72, [true, true, false, true]), (73, [true, true, false, true]), (0, []), (74, [true, true, false, true]), (77, [true, true, false, true]), (77, [true, true, true, false, true]), (79, [true, true, false, true]), (79, [true, true, true, false, true]), (0, []), (0, []), (0, []), (83, [true, true, true]), (83, [true, true, true, false, false, false, true, false, true]), (83, [true, true, true, false, false, false, true, false, true, false, false, true, false, false, true, true, false, true]), (75, [true, true, true, true, false, true]), (0, []), (86, [true, true, false, true]), (0, []), (0, []), (0, []), (87, [true, true]), (87, [true, true, true, true, false, true]), (0, []), (0, []), (0, []), (0, []), (85, [true, true, true, true, true, true, false, true]), (85, [true, true, true, true, true, true, false, true, false, false, true, false, false, true, true, true, false, true]), (85, [true, true, true, true, true, true, false, true, false, false, true, false, false, true, true, true, true, true, true, false, true]), (75, [true, true, true, true, true, true, true, true, true, true, true, false, true]), (75, [true, true, true, true, true, true, true, true, true, true, true, false, true, false, false, true, false, false, true, true]), (88, [true, true, true, true, true, false, true]), (89, [true, true, true, true, true, true, true, true, false, true])] }
noncomputable def T : Tbl := tabs.tbl fun _ _ => none

noncomputable def c0 (rf : T.RF) (d1 : XC) : Option Bool := rf 0 d1
noncomputable def c1 (rf : T.RF) (d1 : XC) : Option Bool := rf 1 d1
noncomputable def c2 (rf : T.RF) : Option Bool := rf 2 ()
noncomputable def c3 (rf : T.RF) (d1 : XT) : Option XT := rf 3 d1
noncomputable def c4 (rf : T.RF) (d1 : XT) (d2 : List Int) : Option (XC × Int) := rf 4 (d1, d2)
noncomputable def c5 (rf : T.RF) (d1 : XT) : Option (XT × Int) := rf 5 d1
noncomputable def c6 (rf : T.RF) (d1 : XT) : Option (List Int × Int) := rf 6 d1
noncomputable def c7 (rf : T.RF) (d1 : XT) : Option Int := rf 7 d1
noncomputable def c8 (rf : T.RF) (d1 : XT) (d2 : List XO) : Option (XT × Bool) := rf 8 (d1, d2)
noncomputable def c9 (rf : T.RF) (d1 : XT) (d2 : List XO) : Option (XT × Int) := rf 9 (d1, d2)
noncomputable def c10 (rf : T.RF) (d1 : XT) (d2 : XO) : Option (XT × Bool) := rf 10 (d1, d2)
noncomputable def c11 (rf : T.RF) (d1 : XT) (d2 : XO) : Option Bool := rf 11 (d1, d2)
noncomputable def c12 (rf : T.RF) (d1 : XO) : Option (List Int × List Int) := rf 12 d1
noncomputable def c13 (rf : T.RF) (d1 : Int) : Option Int := rf 13 d1
noncomputable def c14 (rf : T.RF) (d1 : Int) : Option Int := rf 14 d1
noncomputable def c15 (rf : T.RF) (d1 : XT) (d2 : Int) : Option (XT × Bool) := rf 15 (d1, d2)
noncomputable def c16 (rf : T.RF) (d1 : List Int) : Option Bool := rf 16 d1
noncomputable def c17 (rf : T.RF) (d1 : List Int) : Option Int := rf 17 d1
noncomputable def c18 (rf : T.RF) (d1 : Int) : Option Bool := rf 18 d1
noncomputable def c19 (rf : T.RF) (d1 : Int) : Option Bool := rf 19 d1
noncomputable def c20 (rf : T.RF) (d1 : XT) (d2 : List Int) : Option (XT × Bool) := rf 20 (d1, d2)
noncomputable def c21 (rf : T.RF) (d1 : XT) (d2 : List Int) : Option (XT × Int) := rf 21 (d1, d2)
noncomputable def c22 (rf : T.RF) (d1 : XT) (d2 : Int) : Option (XT × Bool) := rf 22 (d1, d2)
noncomputable def c23 (rf : T.RF) (d1 : XT) : Option Bool := rf 23 d1
noncomputable def c24 (rf : T.RF) (d1 : XO) : Option (List Int) := rf 24 d1
noncomputable def c25 (rf : T.RF) (d1 : List Int) : Option ((List Int) ⊕ (List Int)) := rf 25 d1
noncomputable def c26 (rf : T.RF) (d1 : List Int) : Option (List Int × Int) := rf 26 d1
noncomputable def c27 (rf : T.RF) (d1 : Int) : Option Bool := rf 27 d1
noncomputable def c28 (rf : T.RF) (d1 : List Int) (d2 : Int) : Option (List Int) := rf 28 (d1, d2)
noncomputable def c29 (rf : T.RF) (d1 : List Int) (d2 : Int) : Option (List Int) := rf 29 (d1, d2)
noncomputable def c30 (rf : T.RF) (d1 : List Int) : Option (List Int × Int) := rf 30 d1
noncomputable def c31 (rf : T.RF) (d1 : List Int) (d2 : Int) : Option (List Int) := rf 31 (d1, d2)
noncomputable def c32 (rf : T.RF) (d1 : List Int) (d2 : Int) (d3 : Int) : Option (List Int × Bool) := rf 32 (d1, d2, d3)
noncomputable def c33 (rf : T.RF) (d1 : List Int) (d2 : Int) (d3 : Int) : Option (List Int) := rf 33 (d1, d2, d3)
noncomputable def c34 (rf : T.RF) (d1 : List Int) : Option (List Int × Int) := rf 34 d1
noncomputable def c35 (rf : T.RF) (d1 : List Int) (d2 : Int) (d3 : Int) : Option (List Int × Bool) := rf 35 (d1, d2, d3)
noncomputable def c36 (rf : T.RF) (d1 : List Int) : Option (List Int × Int) := rf 36 d1
noncomputable def c37 (rf : T.RF) (d1 : List Int) : Option (List Int) := rf 37 d1
noncomputable def c38 (rf : T.RF) (d1 : XT) : Option (List Int) := rf 38 d1
noncomputable def c39 (rf : T.RF) (d1 : XT) : Option Bool := rf 39 d1
noncomputable def c40 (rf : T.RF) (d1 : Int) (d2 : List Int) : Option (Int × Bool) := rf 40 (d1, d2)
noncomputable def c41 (rf : T.RF) (d1 : Int) (d2 : List Int) : Option (Int × Int) := rf 41 (d1, d2)
noncomputable def c42 (rf : T.RF) (d1 : Int) (d2 : Int) : Option (Int × Bool) := rf 42 (d1, d2)
noncomputable def c43 (rf : T.RF) (d1 : List Int) (d2 : Int) : Option (List Int) := rf 43 (d1, d2)
noncomputable def c44 (rf : T.RF) (d1 : Int) (d2 : Int) : Option (Int × Int) := rf 44 (d1, d2)
noncomputable def c45 (rf : T.RF) (d1 : Int) (d2 : Int) : Option (Int × Int) := rf 45 (d1, d2)
noncomputable def c46 (rf : T.RF) (d1 : XT) (d2 : List Int) (d3 : Int) : Option (XT × List Int) := rf 46 (d1, d2, d3)
noncomputable def c47 (rf : T.RF) (d1 : Int) (d2 : Int) (d3 : List XI) (d4 : List Int) (d5 : List Int) (d6 : List Int) (d7 : List (Int × Int)) : Option ((Int × Int × List XI × List Int × List Int × List (Int × Int) × List Int × Int) ⊕ (Int × Int × List XI × List Int × List Int × List Int × List (Int × Int) × Int)) := rf 47 (d1, d2, d3, d4, d5, d6, d7)
noncomputable def c48 (rf : T.RF) (d1 : Int) : Option Int := rf 48 d1
noncomputable def c49 (rf : T.RF) (d1 : XC) : Option XC := rf 49 d1
noncomputable def c50 (rf : T.RF) (d1 : XC) (d2 : List (List Int)) : Option (List (List Int) × Int) := rf 50 (d1, d2)
noncomputable def c51 (rf : T.RF) (d1 : XC) : Option Int := rf 51 d1
noncomputable def c52 (rf : T.RF) (d1 : XI) : Option (List Int × Bool) := rf 52 d1
noncomputable def c53 (rf : T.RF) (d1 : Int) : Option Int := rf 53 d1
noncomputable def c54 (rf : T.RF) (d1 : XI) (d2 : Int) : Option Bool := rf 54 (d1, d2)
noncomputable def c55 (rf : T.RF) (d1 : XC) (d2 : XI) : Option Bool := rf 55 (d1, d2)
noncomputable def c56 (rf : T.RF) (d1 : Int) : Option Bool := rf 56 d1
noncomputable def c57 (rf : T.RF) (d1 : List Bool) (d2 : Int) : Option (List Bool × Bool) := rf 57 (d1, d2)
noncomputable def c58 (rf : T.RF) (d1 : XC) : Option (List Int × Bool) := rf 58 d1
noncomputable def c59 (rf : T.RF) (d1 : XC) (d2 : List Int × Bool) (d3 : List Int) : Option (List Int × (List Int × Bool) × Int) := rf 59 (d1, d2, d3)
noncomputable def c60 (rf : T.RF) (d1 : XC) (d2 : List Int) : Option Bool := rf 60 (d1, d2)
noncomputable def c61 (rf : T.RF) (d1 : List Int) (d2 : XI) (d3 : List Int) (d4 : List Int × Bool) : Option (List Int × Int × Int) := rf 61 (d1, d2, d3, d4)
noncomputable def c62 (rf : T.RF) (d1 : Int) (d2 : Int) (d3 : Int) (d4 : Int) : Option (Int × Int) := rf 62 (d1, d2, d3, d4)
noncomputable def c63 (rf : T.RF) (d1 : Bool) : Option Int := rf 63 d1
noncomputable def c64 (rf : T.RF) (d1 : Int) : Option (Int × Int) := rf 64 d1
noncomputable def c65 (rf : T.RF) (d1 : Int) (d2 : Int) : Option (Int × Int) := rf 65 (d1, d2)
noncomputable def c66 (rf : T.RF) (d1 : Int) : Option Int := rf 66 d1
noncomputable def c67 (rf : T.RF) (d1 : XC) : Option Int := rf 67 d1
noncomputable def c68 (rf : T.RF) (d1 : XC) (d2 : XI) : Option Bool := rf 68 (d1, d2)
noncomputable def c69 (rf : T.RF) (d1 : List (Int × Bool)) (d2 : List Int) : Option (List (Int × Bool) × Bool) := rf 69 (d1, d2)
noncomputable def c70 (rf : T.RF) (d1 : List (Int × Bool)) (d2 : List Int) : Option (List (Int × Bool) × Int) := rf 70 (d1, d2)
noncomputable def c71 (rf : T.RF) (d1 : List (Int × Bool)) (d2 : Int) : Option (List (Int × Bool) × Bool) := rf 71 (d1, d2)
noncomputable def c72 (rf : T.RF) (d1 : List (List Int)) (d2 : List (List Int)) : Option Bool := rf 72 (d1, d2)
noncomputable def c73 (rf : T.RF) (d1 : List Int) (d2 : List Int) : Option Bool := rf 73 (d1, d2)
noncomputable def c74 (rf : T.RF) (d1 : XC) : Option XC := rf 74 d1
noncomputable def c75 (rf : T.RF) (d1 : XT) (d2 : List Int) (d3 : List (List Int)) : Option Bool := rf 75 (d1, d2, d3)
noncomputable def c76 (rf : T.RF) (d1 : XT) : Option Bool := rf 76 d1
noncomputable def c77 (rf : T.RF) (d1 : List (List UInt8 × Int × List (Int × Int × Int × Int × Int × List UInt8))) (d2 : List (List Int)) : Option Bool := rf 77 (d1, d2)
noncomputable def c78 (rf : T.RF) (d1 : XT) : Option Int := rf 78 d1
noncomputable def c79 (rf : T.RF) (d1 : XT) : Option Bool := rf 79 d1
noncomputable def c80 (rf : T.RF) (d1 : Int) : Option Int := rf 80 d1
noncomputable def c81 (rf : T.RF) (d1 : XT) (d2 : XO) : Option Bool := rf 81 (d1, d2)
noncomputable def c82 (rf : T.RF) (d1 : XT) (d2 : Int) (d3 : Int) (d4 : Int) : Option Bool := rf 82 (d1, d2, d3, d4)
noncomputable def c83 (rf : T.RF) (d1 : XT) : Option (List Int) := rf 83 d1
noncomputable def c84 (rf : T.RF) (d1 : XO) : Option (List Int) := rf 84 d1
noncomputable def c85 (rf : T.RF) (d1 : XT) (d2 : List (List Int)) : Option (List (List Int) × Int) := rf 85 (d1, d2)
noncomputable def c86 (rf : T.RF) (d1 : XT) (d2 : List Int) : Option Bool := rf 86 (d1, d2)
noncomputable def c87 (rf : T.RF) (d1 : List Int) (d2 : XO) (d3 : List Int) (d4 : List Int) : Option (List Int × Int × Int) := rf 87 (d1, d2, d3, d4)
noncomputable def c88 (rf : T.RF) (d1 : XT) (d2 : List Int) : Option Bool := rf 88 (d1, d2)
noncomputable def c89 (rf : T.RF) (d1 : XT) (d2 : List Int) (d3 : List (List Int)) : Option Bool := rf 89 (d1, d2, d3)
noncomputable def c90 (rf : T.RF) (d1 : XC) (d2 : Int) (d3 : Int) : Option Bool := rf 90 (d1, d2, d3)
noncomputable def k1 (rb : T.RB) (d1 : XT) (d2 : List Int) (d3 : List Int) (d4 : List XO) (d5 : Int) : Option (XT × List Int × List Int × List XO) := rb 1 (d1, d2, d3, d4, d5)
noncomputable def k2 (rb : T.RB) (d1 : XT) (d2 : List XO) (d3 : Int) (d4 : Int) : Option ((XT × Int) ⊕ XT) := rb 2 (d1, d2, d3, d4)
noncomputable def k3 (rb : T.RB) (d1 : XT) (d2 : List Int) (d3 : Int) (d4 : Int) : Option ((XT × Bool) ⊕ XT) := rb 3 (d1, d2, d3, d4)
noncomputable def k4 (rb : T.RB) (d1 : List Int) (d2 : Int) (d3 : Int) : Option (Int ⊕ Unit) := rb 4 (d1, d2, d3)
noncomputable def k5 (rb : T.RB) (d1 : XT) (d2 : List Int) (d3 : Int) (d4 : Int) : Option ((XT × Int) ⊕ XT) := rb 5 (d1, d2, d3, d4)
noncomputable def k11 (rb : T.RB) (d1 : XT) (d2 : List Int) (d3 : Int) (d4 : Int) : Option ((XT × List Int × Bool) ⊕ (XT × List Int)) := rb 11 (d1, d2, d3, d4)
noncomputable def k12 (rb : T.RB) (d1 : XT) (d2 : List Int) (d3 : List Int) : Option ((XT × List Int × Bool) ⊕ (XT × List Int)) := rb 12 (d1, d2, d3)
noncomputable def k13 (rb : T.RB) (d1 : List Int) (d2 : List Int) (d3 : List Int) (d4 : Int) (d5 : Int) : Option ((List Int × Bool) ⊕ (List Int × List Int)) := rb 13 (d1, d2, d3, d4, d5)
noncomputable def k15 (rb : T.RB) (d1 : List Int) (d2 : Int) (d3 : Int) : Option ((List Int × Int) ⊕ (List Int)) := rb 15 (d1, d2, d3)
noncomputable def k16 (rb : T.RB) (d1 : List Int) (d2 : Int) (d3 : Int) : Option (List Int × Int) := rb 16 (d1, d2, d3)
noncomputable def k18 (rb : T.RB) (d1 : List Int) (d2 : Int) : Option (List Int) := rb 18 (d1, d2)
noncomputable def k22 (rb : T.RB) (d1 : List Int) (d2 : Int) (d3 : Int) : Option (List Int × Int) := rb 22 (d1, d2, d3)
noncomputable def k36 (rb : T.RB) (d1 : List Int) (d2 : List (List Int)) (d3 : List Int) (d4 : List XO) (d5 : Int) (d6 : Int) : Option (List Int × List (List Int) × List Int) := rb 36 (d1, d2, d3, d4, d5, d6)
noncomputable def k37 (rb : T.RB) (d1 : List Int) (d2 : List (List Int)) (d3 : List Int) (d4 : Int) (d5 : Int) (d6 : Int) : Option (List Int × List (List Int) × List Int) := rb 37 (d1, d2, d3, d4, d5, d6)
noncomputable def k38 (rb : T.RB) (d1 : List Int) (d2 : List Int) (d3 : List Int) (d4 : List (List Int)) : Option (List Int × List Int × List Int) := rb 38 (d1, d2, d3, d4)
noncomputable def k39 (rb : T.RB) (d1 : List Int) (d2 : List Int) (d3 : List Int) (d4 : Int) (d5 : Int) : Option (List Int × List Int) := rb 39 (d1, d2, d3, d4, d5)
noncomputable def k51 (rb : T.RB) (d1 : List Int) (d2 : List Int) (d3 : Int) (d4 : Int) : Option (List Int × List Int) := rb 51 (d1, d2, d3, d4)
noncomputable def k52 (rb : T.RB) (d1 : XT) (d2 : List Int) (d3 : List Int) (d4 : List XO) (d5 : List Int) (d6 : List Int) (d7 : Int) (d8 : Int) : Option (XT × List Int × List Int × List Int × List Int × List XO) := rb 52 (d1, d2, d3, d4, d5, d6, d7, d8)
noncomputable def k53 (rb : T.RB) (d1 : List Int) (d2 : List XO) (d3 : List Int) (d4 : List Int) (d5 : List Int) (d6 : Int) (d7 : Int) : Option (List Int × XT) := rb 53 (d1, d2, d3, d4, d5, d6, d7)
noncomputable def k54 (rb : T.RB) (d1 : List XO) (d2 : Int) (d3 : Int) : Option (Bool ⊕ Unit) := rb 54 (d1, d2, d3)
noncomputable def k55 (rb : T.RB) (d1 : Int) (d2 : List Int) (d3 : Int) (d4 : Int) : Option ((Int × Int) ⊕ Int) := rb 55 (d1, d2, d3, d4)
noncomputable def k58 (rb : T.RB) (d1 : List Int) (d2 : Int) : Option (List Int) := rb 58 (d1, d2)
noncomputable def k59 (rb : T.RB) (d1 : List Int) (d2 : Int) : Option (List Int) := rb 59 (d1, d2)
noncomputable def k60 (rb : T.RB) (d1 : List Int) (d2 : List XO) (d3 : Int) (d4 : Int) : Option (List Int) := rb 60 (d1, d2, d3, d4)
noncomputable def k61 (rb : T.RB) (d1 : List Int) (d2 : List Int) (d3 : Int) (d4 : Int) (d5 : Int) : Option (List Int × List Int) := rb 61 (d1, d2, d3, d4, d5)
noncomputable def k194 (rb : T.RB) (d1 : XT) (d2 : Int) (d3 : Int) (d4 : List Int) (d5 : List XI) (d6 : List Int) (d7 : List Int) (d8 : List Int) (d9 : Int) (d10 : Int) : Option ((XT × Int × Int × List Int × List XI × List Int × List Int × List XI × List Int × Int) ⊕ (XT × Int × Int × List Int × List XI × List Int × List Int)) := rb 194 (d1, d2, d3, d4, d5, d6, d7, d8, d9, d10)
noncomputable def k195 (rb : T.RB) (d1 : XT) (d2 : List (Int × Int)) (d3 : List Int) (d4 : List XO) (d5 : Int) (d6 : Int) : Option (XT × List (Int × Int) × List Int) := rb 195 (d1, d2, d3, d4, d5, d6)
noncomputable def k196 (rb : T.RB) (d1 : List (Int × Int)) (d2 : Int) (d3 : Int) (d4 : List Int) (d5 : List XI) (d6 : List Int) (d7 : List Int) (d8 : List Int) (d9 : List (Int × Int)) (d10 : List XO) (d11 : Int) (d12 : Int) : Option (List (Int × Int) × Int × Int × List Int × List Int × List Int × List (Int × Int) × List XI × List Int) := rb 196 (d1, d2, d3, d4, d5, d6, d7, d8, d9, d10, d11, d12)
noncomputable def k197 (rb : T.RB) (d1 : Int) (d2 : Int) (d3 : XI) (d4 : List Int) (d5 : List XI) (d6 : List Int) (d7 : List Int) (d8 : List Int) (d9 : List (Int × Int)) (d10 : Int) : Option ((Int × Int × XI × List Int × List Int × List Int × List (Int × Int) × List XI × List Int) ⊕ (Int × Int × XI × List Int × List Int × List Int × List Int × List (Int × Int) × List XI)) := rb 197 (d1, d2, d3, d4, d5, d6, d7, d8, d9, d10)
noncomputable def k198 (rb : T.RB) (d1 : Int) (d2 : Int) (d3 : List Int) (d4 : List Int) (d5 : List XI) (d6 : List Int) (d7 : List Int) (d8 : List Int) (d9 : List (Int × Int)) (d10 : XI) (d11 : Int) : Option (Int × Int × List Int × List Int × List XI × List Int × List Int × List (Int × Int) × XI × List Int) := rb 198 (d1, d2, d3, d4, d5, d6, d7, d8, d9, d10, d11)
noncomputable def k199 (rb : T.RB) (d1 : Int) (d2 : Int) (d3 : List Int) (d4 : List XI) (d5 : List Int) (d6 : List Int) (d7 : List Int) (d8 : List (Int × Int)) (d9 : XI) (d10 : Int) (d11 : Int) : Option (Int × Int × List Int × List XI × List Int × List Int × List Int × List (Int × Int) × XI) := rb 199 (d1, d2, d3, d4, d5, d6, d7, d8, d9, d10, d11)
noncomputable def k200 (rb : T.RB) (d1 : Int) (d2 : Int) (d3 : List Int) (d4 : List Int) (d5 : List XI) (d6 : List Int) (d7 : List Int) (d8 : List Int) (d9 : List (Int × Int)) (d10 : Int) (d11 : Int) (d12 : Int) : Option (Int × Int × List Int × List Int × List XI × List Int × List Int × List (Int × Int) × List Int) := rb 200 (d1, d2, d3, d4, d5, d6, d7, d8, d9, d10, d11, d12)
noncomputable def k201 (rb : T.RB) (d1 : List (Int × Int)) (d2 : Int) (d3 : Int) (d4 : List XI) (d5 : List Int) (d6 : List Int) (d7 : List Int) (d8 : List (Int × Int)) (d9 : Int) (d10 : Int) : Option (List (Int × Int) × Int × Int × List Int × List Int × List Int × List (Int × Int) × List XI) := rb 201 (d1, d2, d3, d4, d5, d6, d7, d8, d9, d10)
noncomputable def k202 (rb : T.RB) (d1 : XT) (d2 : Int) (d3 : Int) (d4 : List XI) (d5 : List Int) (d6 : List Int) (d7 : List Int) (d8 : List (Int × Int)) (d9 : List Int) (d10 : Int) (d11 : Int) : Option (XT × Int × Int × List XI × List Int × List Int × List (Int × Int) × List Int) := rb 202 (d1, d2, d3, d4, d5, d6, d7, d8, d9, d10, d11)
noncomputable def k204 (rb : T.RB) (d1 : XC) (d2 : Int) (d3 : Int) (d4 : List Int) (d5 : List Int) (d6 : List XI) (d7 : Int) : Option (XC × Int × Int × List Int × List Int × List XI) := rb 204 (d1, d2, d3, d4, d5, d6, d7)
noncomputable def k205 (rb : T.RB) (d1 : XC) (d2 : List Bool) (d3 : List Bool) (d4 : Bool) (d5 : Int) : Option ((XC × List Bool × List Bool × Int) ⊕ (XC × List Bool × List Bool)) := rb 205 (d1, d2, d3, d4, d5)
noncomputable def k206 (rb : T.RB) (d1 : List Bool) (d2 : List Int) (d3 : Int) : Option ((List Bool × List Int × Int) ⊕ (List Bool × List Int)) := rb 206 (d1, d2, d3)
noncomputable def k207 (rb : T.RB) (d1 : XC) (d2 : List Bool) (d3 : Int) : Option ((XC × List Bool × Int) ⊕ (XC × List Bool)) := rb 207 (d1, d2, d3)
noncomputable def k209 (rb : T.RB) (d1 : XC) (d2 : List Int) (d3 : Int) : Option ((XC × Bool) ⊕ XC) := rb 209 (d1, d2, d3)
noncomputable def k213 (rb : T.RB) (d1 : List Int) (d2 : XI) : Option (List Int × XI × Int × Int) := rb 213 (d1, d2)
noncomputable def k214 (rb : T.RB) (d1 : List Int) (d2 : List Int) (d3 : List Int) (d4 : Int) : Option (List Int × List Int × List Int) := rb 214 (d1, d2, d3, d4)
noncomputable def k219 (rb : T.RB) (d1 : XC) (d2 : List Int × Bool) (d3 : List Int) (d4 : Bool) (d5 : List Int) (d6 : List Int) (d7 : Int) (d8 : Int) : Option (XC × (List Int × Bool) × List Int × Bool × List Int × Int) := rb 219 (d1, d2, d3, d4, d5, d6, d7, d8)
noncomputable def k220 (rb : T.RB) (d1 : XC) (d2 : List Int) (d3 : List Int) (d4 : Int) : Option (XC × List Int × List Int) := rb 220 (d1, d2, d3, d4)
noncomputable def k222 (rb : T.RB) (d1 : XC) (d2 : List Int × Bool) (d3 : List (List Int)) (d4 : List (List Int)) (d5 : Int) : Option ((XC × (List Int × Bool) × List (List Int) × Int) ⊕ (XC × (List Int × Bool) × List (List Int))) := rb 222 (d1, d2, d3, d4, d5)
noncomputable def k223 (rb : T.RB) (d1 : List Int × Bool) (d2 : List (List Int)) (d3 : List Int) (d4 : List Int × Bool) (d5 : Int) : Option (((List Int × Bool) × List (List Int) × List Int × (List Int × Bool) × Int) ⊕ ((List Int × Bool) × (List Int × Bool) × List (List Int))) := rb 223 (d1, d2, d3, d4, d5)
noncomputable def k224 (rb : T.RB) (d1 : XC) (d2 : List (Int × Bool)) (d3 : List (Int × Bool)) (d4 : List XI) (d5 : Int) (d6 : Int) : Option ((XC × List (Int × Bool) × List (Int × Bool) × Int) ⊕ (XC × List (Int × Bool) × List (Int × Bool))) := rb 224 (d1, d2, d3, d4, d5, d6)
noncomputable def k225 (rb : T.RB) (d1 : List Int) (d2 : List (Int × Bool)) (d3 : Int) (d4 : Int) : Option ((List Int × List (Int × Bool) × Int) ⊕ (List Int × List (Int × Bool))) := rb 225 (d1, d2, d3, d4)
noncomputable def k226 (rb : T.RB) (d1 : List (Int × Bool)) (d2 : List Int) (d3 : Int) (d4 : Int) : Option ((List (Int × Bool) × Int) ⊕ (List (Int × Bool))) := rb 226 (d1, d2, d3, d4)
noncomputable def k227 (rb : T.RB) (d1 : List (List Int)) (d2 : List (List Int)) (d3 : Int) : Option (Bool ⊕ Unit) := rb 227 (d1, d2, d3)
noncomputable def k228 (rb : T.RB) (d1 : List Int) (d2 : List Int) (d3 : Int) : Option (Bool ⊕ Unit) := rb 228 (d1, d2, d3)
noncomputable def k230 (rb : T.RB) (d1 : XC) (d2 : Int) (d3 : Int) (d4 : List Int) (d5 : List Int) (d6 : List XI) (d7 : Int) : Option (XC × Int × Int × List Int × List Int × List XI) := rb 230 (d1, d2, d3, d4, d5, d6, d7)
noncomputable def k231 (rb : T.RB) (d1 : List (List UInt8 × Int × List (Int × Int × Int × Int × Int × List UInt8))) (d2 : Int) : Option (Bool ⊕ Unit) := rb 231 (d1, d2)
noncomputable def k232 (rb : T.RB) (d1 : List (List Int)) (d2 : Int) : Option (Bool ⊕ Unit) := rb 232 (d1, d2)
noncomputable def k233 (rb : T.RB) (d1 : XT) (d2 : Int) : Option ((XT × Bool) ⊕ XT) := rb 233 (d1, d2)
noncomputable def k234 (rb : T.RB) (d1 : XT) (d2 : Int) : Option ((XT × Bool) ⊕ XT) := rb 234 (d1, d2)
noncomputable def k238 (rb : T.RB) (d1 : XT) (d2 : List Bool) (d3 : List Int) : Option (XT × List Bool × List Int) := rb 238 (d1, d2, d3)
noncomputable def k239 (rb : T.RB) (d1 : XT) (d2 : List Bool) (d3 : Int) (d4 : Int) : Option (XT × List Bool × Int) := rb 239 (d1, d2, d3, d4)
noncomputable def k240 (rb : T.RB) (d1 : List Bool) (d2 : List Int) (d3 : Bool) (d4 : Int) : Option (List Bool × List Int × Bool) := rb 240 (d1, d2, d3, d4)
noncomputable def k241 (rb : T.RB) (d1 : XT) (d2 : List Int) (d3 : Int) (d4 : Int) : Option (XT × Int) := rb 241 (d1, d2, d3, d4)
noncomputable def k243 (rb : T.RB) (d1 : XT) (d2 : List Int) (d3 : Int) : Option ((XT × Bool) ⊕ XT) := rb 243 (d1, d2, d3)
noncomputable def k247 (rb : T.RB) (d1 : List Int) (d2 : XO) : Option (List Int × XO × Int × Int) := rb 247 (d1, d2)
noncomputable def k248 (rb : T.RB) (d1 : List Int) (d2 : List Int) (d3 : List Int) (d4 : Int) : Option (List Int × List Int × List Int) := rb 248 (d1, d2, d3, d4)
noncomputable def k253 (rb : T.RB) (d1 : XT) (d2 : List Int) (d3 : List (List Int)) (d4 : List (List Int)) (d5 : List Int) (d6 : Int) : Option ((XT × List Int × List (List Int) × Int) ⊕ (XT × List Int × List (List Int))) := rb 253 (d1, d2, d3, d4, d5, d6)
noncomputable def k254 (rb : T.RB) (d1 : XT) (d2 : List Int) (d3 : List Int) (d4 : List (List Int)) (d5 : List Int) (d6 : Int) (d7 : Int) (d8 : Int) : Option (XT × List Int × List Int × Int) := rb 254 (d1, d2, d3, d4, d5, d6, d7, d8)
noncomputable def k255 (rb : T.RB) (d1 : XT) (d2 : List Int) (d3 : List Int) (d4 : Int) : Option (XT × List Int × List Int) := rb 255 (d1, d2, d3, d4)
noncomputable def k256 (rb : T.RB) (d1 : List (List Int)) (d2 : List (List Int)) (d3 : List Int) (d4 : Int) : Option ((List (List Int) × List (List Int) × Bool) ⊕ (List (List Int) × List (List Int))) := rb 256 (d1, d2, d3, d4)
noncomputable def k257 (rb : T.RB) (d1 : List (List Int)) (d2 : List (List Int)) (d3 : List Int) (d4 : Int) (d5 : Int) : Option ((List (List Int) × List (List Int) × Bool) ⊕ (List (List Int) × List (List Int))) := rb 257 (d1, d2, d3, d4, d5)
noncomputable def k258 (rb : T.RB) (d1 : XT) (d2 : Int) (d3 : Int) : Option (XT × Int) := rb 258 (d1, d2, d3)
noncomputable def k259 (rb : T.RB) (d1 : List (List Int)) (d2 : List (List Int)) (d3 : List Int) (d4 : Int) : Option ((List (List Int) × List (List Int) × Bool) ⊕ (List (List Int) × List (List Int))) := rb 259 (d1, d2, d3, d4)

/- bailmentref16.Small -/
noncomputable def r1 (rf : T.RF) (rb : T.RB) (d1 : XC) : Option Bool :=
  bif decide ((((d1.1.length : Nat) : Int)) ≤ 600) then
    bif decide (d1.2.1 ≤ 300) then
      bif decide (d1.2.2.1 ≤ 300) then
        bif decide ((((d1.2.2.2.1.length : Nat) : Int)) ≤ 60) then
          some (decide ((((d1.2.2.2.2.length : Nat) : Int)) ≤ 60))
        else
          some false
      else
        some false
    else
      some false
  else
    some false
theorem er1 (rf : T.RF) (rb : T.RB) (d1 : XC) : T.stepF rf rb 1 d1 = r1 rf rb d1 := by kernel_rfl
theorem or1 {d1 : XC} {y : Bool} (h : r1 T.rf T.rb d1 = some y) : c1 T.rf d1 = some y := T.rf_of (f := 1) (d := d1) ((er1 T.rf T.rb d1).trans h)

/- bailmentlaw14.Own loop 0 -/
noncomputable def b1 (rf : T.RF) (rb : T.RB) (d1 : XT) (d2 : List Int) (d3 : List Int) (d4 : List XO) (d5 : Int) : Option (XT × List Int × List Int × List XO) :=
  bif decide (d5 < (((d1.1.length : Nat) : Int))) then
    bif inb d5 d1.1.length then
      (nth d1.1 d5.toNat).bind fun (x1 : XO) =>
      bif (Nat.ble (d4.length + 1) most) && true then
        k1 rb d1 d2 d3 (d4 ++ [x1]) (IntKind.i64.wrap (d5 + 1))
      else
        none
    else
      none
  else
    some (d1, d2, d3, d4)
theorem eb1 (rf : T.RF) (rb : T.RB) (d1 : XT) (d2 : List Int) (d3 : List Int) (d4 : List XO) (d5 : Int) : T.stepB rf rb 1 (d1, d2, d3, d4, d5) = b1 rf rb d1 d2 d3 d4 d5 := by kernel_rfl
theorem ob1 {d1 : XT} {d2 : List Int} {d3 : List Int} {d4 : List XO} {d5 : Int} {y : (XT × List Int × List Int × List XO)} (h : b1 T.rf T.rb d1 d2 d3 d4 d5 = some y) : k1 T.rb d1 d2 d3 d4 d5 = some y := T.rb_of (κ := 1) (d := (d1, d2, d3, d4, d5)) ((eb1 T.rf T.rb d1 d2 d3 d4 d5).trans h)

/- bailmentlaw14.Own -/
noncomputable def r3 (rf : T.RF) (rb : T.RB) (d1 : XT) : Option XT :=
  (k1 rb d1 d1.2.1 d1.2.2 [] 0).bind fun (z1 : XT × List Int × List Int × List XO) =>
  some (z1.2.2.2, z1.2.1, z1.2.2.1)
theorem er3 (rf : T.RF) (rb : T.RB) (d1 : XT) : T.stepF rf rb 3 d1 = r3 rf rb d1 := by kernel_rfl
theorem or3 {d1 : XT} {y : XT} (h : r3 T.rf T.rb d1 = some y) : c3 T.rf d1 = some y := T.rf_of (f := 3) (d := d1) ((er3 T.rf T.rb d1).trans h)

/- num.Operands -/
noncomputable def r14 (rf : T.RF) (rb : T.RB) (d1 : Int) : Option Int :=
  bif d1 == 4 then
    some 1
  else
  bif d1 == 5 then
    some 1
  else
  bif decide (d1 ≥ 6) then
    bif decide (d1 ≤ 18) then
      some 2
    else
    bif d1 == 26 then
      some 3
    else
      some (-1)
  else
  bif d1 == 26 then
    some 3
  else
    some (-1)
theorem er14 (rf : T.RF) (rb : T.RB) (d1 : Int) : T.stepF rf rb 14 d1 = r14 rf rb d1 := by kernel_rfl
theorem or14 {d1 : Int} {y : Int} (h : r14 T.rf T.rb d1 = some y) : c14 T.rf d1 = some y := T.rf_of (f := 14) (d := d1) ((er14 T.rf T.rb d1).trans h)

/- norm.operands -/
noncomputable def r13 (rf : T.RF) (rb : T.RB) (d1 : Int) : Option Int :=
  bif d1 == 3 then
    bif d1 == 3 then
      some 0
    else
    bif d1 == 21 then
      some 1
    else
    bif d1 == 19 then
      some 2
    else
      (c14 rf d1).bind fun (y1 : Int) =>
      some y1
  else
  bif d1 == 1 then
    bif d1 == 1 then
      some 0
    else
    bif d1 == 21 then
      some 1
    else
    bif d1 == 19 then
      some 2
    else
      (c14 rf d1).bind fun (y2 : Int) =>
      some y2
  else
  bif d1 == 2 then
    some 0
  else
  bif d1 == 21 then
    some 1
  else
  bif d1 == 19 then
    some 2
  else
    (c14 rf d1).bind fun (y3 : Int) =>
    some y3
theorem er13 (rf : T.RF) (rb : T.RB) (d1 : Int) : T.stepF rf rb 13 d1 = r13 rf rb d1 := by kernel_rfl
theorem or13 {d1 : Int} {y : Int} (h : r13 T.rf T.rb d1 = some y) : c13 T.rf d1 = some y := T.rf_of (f := 13) (d := d1) ((er13 T.rf T.rb d1).trans h)

/- (bailment/norm.Op).fields -/
noncomputable def r12 (rf : T.RF) (rb : T.RB) (d1 : XO) : Option (List Int × List Int) :=
  (c13 rf d1.1).bind fun (y1 : Int) =>
  bif inb' (if 0 > y1 then 0 else y1) 3 then
    bif inb' (if 0 > y1 then 0 else y1) 3 then
      some (sub [d1.2.1, d1.2.2.1, d1.2.2.2.1] (some (0, ((if 0 > y1 then 0 else y1).toNat - 0))), sub [d1.2.1, d1.2.2.1, d1.2.2.2.1] (some ((if 0 > y1 then 0 else y1).toNat, (3 - (if 0 > y1 then 0 else y1).toNat))))
    else
      none
  else
    none
theorem er12 (rf : T.RF) (rb : T.RB) (d1 : XO) : T.stepF rf rb 12 d1 = r12 rf rb d1 := by kernel_rfl
theorem or12 {d1 : XO} {y : (List Int × List Int)} (h : r12 T.rf T.rb d1 = some y) : c12 T.rf d1 = some y := T.rf_of (f := 12) (d := d1) ((er12 T.rf T.rb d1).trans h)

/- (bailment/norm.Net).may$1 -/
noncomputable def r15 (rf : T.RF) (rb : T.RB) (d1 : XT) (d2 : Int) : Option (XT × Bool) :=
  bif decide (d2 ≥ 0) then
    some (d1, decide (d2 < (((d1.1.length : Nat) : Int))))
  else
    some (d1, false)
theorem er15 (rf : T.RF) (rb : T.RB) (d1 : XT) (d2 : Int) : T.stepF rf rb 15 (d1, d2) = r15 rf rb d1 d2 := by kernel_rfl
theorem or15 {d1 : XT} {d2 : Int} {y : (XT × Bool)} (h : r15 T.rf T.rb d1 d2 = some y) : c15 T.rf d1 d2 = some y := T.rf_of (f := 15) (d := (d1, d2)) ((er15 T.rf T.rb d1 d2).trans h)

/- (bailment/norm.Net).may$2 -/
noncomputable def r18 (rf : T.RF) (rb : T.RB) (d1 : Int) : Option Bool :=
  some (d1 != (-1))
theorem er18 (rf : T.RF) (rb : T.RB) (d1 : Int) : T.stepF rf rb 18 d1 = r18 rf rb d1 := by kernel_rfl
theorem or18 {d1 : Int} {y : Bool} (h : r18 T.rf T.rb d1 = some y) : c18 T.rf d1 = some y := T.rf_of (f := 18) (d := d1) ((er18 T.rf T.rb d1).trans h)

/- slices.IndexFunc[[]int,int] loop 0 -/
noncomputable def b4 (rf : T.RF) (rb : T.RB) (d1 : List Int) (d2 : Int) (d3 : Int) : Option (Int ⊕ Unit) :=
  bif decide (d3 < d2) then
    bif inb d3 d1.length then
      (nth d1 d3.toNat).bind fun (x1 : Int) =>
      (c18 rf x1).bind fun (y2 : Bool) =>
      bif y2 then
        some (.inl d3)
      else
        k4 rb d1 d2 (IntKind.i64.wrap (d3 + 1))
    else
      none
  else
    some (.inr ())
theorem eb4 (rf : T.RF) (rb : T.RB) (d1 : List Int) (d2 : Int) (d3 : Int) : T.stepB rf rb 4 (d1, d2, d3) = b4 rf rb d1 d2 d3 := by kernel_rfl
theorem ob4 {d1 : List Int} {d2 : Int} {d3 : Int} {y : (Int ⊕ Unit)} (h : b4 T.rf T.rb d1 d2 d3 = some y) : k4 T.rb d1 d2 d3 = some y := T.rb_of (κ := 4) (d := (d1, d2, d3)) ((eb4 T.rf T.rb d1 d2 d3).trans h)

/- slices.IndexFunc[[]int,int] -/
noncomputable def r17 (rf : T.RF) (rb : T.RB) (d1 : List Int) : Option Int :=
  (k4 rb d1 (((d1.length : Nat) : Int)) 0).bind fun (z1 : Int ⊕ Unit) =>
  match z1 with
  | .inl u2 =>
    some u2
  | .inr w3 =>
    some (-1)
theorem er17 (rf : T.RF) (rb : T.RB) (d1 : List Int) : T.stepF rf rb 17 d1 = r17 rf rb d1 := by kernel_rfl
theorem or17 {d1 : List Int} {y : Int} (h : r17 T.rf T.rb d1 = some y) : c17 T.rf d1 = some y := T.rf_of (f := 17) (d := d1) ((er17 T.rf T.rb d1).trans h)

/- slices.ContainsFunc[[]int,int] -/
noncomputable def r16 (rf : T.RF) (rb : T.RB) (d1 : List Int) : Option Bool :=
  (c17 rf d1).bind fun (y1 : Int) =>
  some (decide (y1 ≥ 0))
theorem er16 (rf : T.RF) (rb : T.RB) (d1 : List Int) : T.stepF rf rb 16 d1 = r16 rf rb d1 := by kernel_rfl
theorem or16 {d1 : List Int} {y : Bool} (h : r16 T.rf T.rb d1 = some y) : c16 T.rf d1 = some y := T.rf_of (f := 16) (d := d1) ((er16 T.rf T.rb d1).trans h)

/- num.Fits -/
noncomputable def r19 (rf : T.RF) (rb : T.RB) (d1 : Int) : Option Bool :=
  some ((IntKind.i64.wrap (IntKind.i32.wrap d1)) == d1)
theorem er19 (rf : T.RF) (rb : T.RB) (d1 : Int) : T.stepF rf rb 19 d1 = r19 rf rb d1 := by kernel_rfl
theorem or19 {d1 : Int} {y : Bool} (h : r19 T.rf T.rb d1 = some y) : c19 T.rf d1 = some y := T.rf_of (f := 19) (d := d1) ((er19 T.rf T.rb d1).trans h)

/- (bailment/norm.Net).may loop 0 -/
noncomputable def b3 (rf : T.RF) (rb : T.RB) (d1 : XT) (d2 : List Int) (d3 : Int) (d4 : Int) : Option ((XT × Bool) ⊕ XT) :=
  bif decide (d4 < d3) then
    bif inb d4 d2.length then
      (nth d2 d4.toNat).bind fun (x1 : Int) =>
      (c15 rf d1 x1).bind fun (y2 : XT × Bool) =>
      bif !y2.2 then
        some (.inl (y2.1, false))
      else
        k3 rb y2.1 d2 d3 (IntKind.i64.wrap (d4 + 1))
    else
      none
  else
    some (.inr d1)
theorem eb3 (rf : T.RF) (rb : T.RB) (d1 : XT) (d2 : List Int) (d3 : Int) (d4 : Int) : T.stepB rf rb 3 (d1, d2, d3, d4) = b3 rf rb d1 d2 d3 d4 := by kernel_rfl
theorem ob3 {d1 : XT} {d2 : List Int} {d3 : Int} {d4 : Int} {y : ((XT × Bool) ⊕ XT)} (h : b3 T.rf T.rb d1 d2 d3 d4 = some y) : k3 T.rb d1 d2 d3 d4 = some y := T.rb_of (κ := 3) (d := (d1, d2, d3, d4)) ((eb3 T.rf T.rb d1 d2 d3 d4).trans h)

/- (bailment/norm.Net).may -/
noncomputable def r11 (rf : T.RF) (rb : T.RB) (d1 : XT) (d2 : XO) : Option Bool :=
  (c12 rf d2).bind fun (y1 : List Int × List Int) =>
  (k3 rb d1 y1.1 (((y1.1.length : Nat) : Int)) 0).bind fun (z2 : (XT × Bool) ⊕ XT) =>
  match z2 with
  | .inl u3 =>
    some u3.2
  | .inr w4 =>
    (c13 rf d2.1).bind fun (y5 : Int) =>
    bif decide (y5 < 0) then
      some false
    else
      (c16 rf y1.2).bind fun (y6 : Bool) =>
      bif y6 then
        some false
      else
      bif d2.1 == 3 then
        bif decide (d2.2.2.2.2 ≥ 0) then
          some (decide (d2.2.2.2.2 < (((w4.2.2.length : Nat) : Int))))
        else
          some false
      else
      bif d2.1 == 1 then
        (c19 rf d2.2.2.2.2).bind fun (y7 : Bool) =>
        some y7
      else
      bif d2.1 == 2 then
        bif d2.2.2.2.2 == 0 then
          some true
        else
          some (d2.2.2.2.2 == 1)
      else
        some (d2.2.2.2.2 == 0)
theorem er11 (rf : T.RF) (rb : T.RB) (d1 : XT) (d2 : XO) : T.stepF rf rb 11 (d1, d2) = r11 rf rb d1 d2 := by kernel_rfl
theorem or11 {d1 : XT} {d2 : XO} {y : Bool} (h : r11 T.rf T.rb d1 d2 = some y) : c11 T.rf d1 d2 = some y := T.rf_of (f := 11) (d := (d1, d2)) ((er11 T.rf T.rb d1 d2).trans h)

/- norm.Check$1 -/
noncomputable def r10 (rf : T.RF) (rb : T.RB) (d1 : XT) (d2 : XO) : Option (XT × Bool) :=
  (c11 rf d1 d2).bind fun (y1 : Bool) =>
  some (d1, !y1)
theorem er10 (rf : T.RF) (rb : T.RB) (d1 : XT) (d2 : XO) : T.stepF rf rb 10 (d1, d2) = r10 rf rb d1 d2 := by kernel_rfl
theorem or10 {d1 : XT} {d2 : XO} {y : (XT × Bool)} (h : r10 T.rf T.rb d1 d2 = some y) : c10 T.rf d1 d2 = some y := T.rf_of (f := 10) (d := (d1, d2)) ((er10 T.rf T.rb d1 d2).trans h)

/- slices.IndexFunc[[]bailment/norm.Op,bailment/norm.Op] loop 0 -/
noncomputable def b2 (rf : T.RF) (rb : T.RB) (d1 : XT) (d2 : List XO) (d3 : Int) (d4 : Int) : Option ((XT × Int) ⊕ XT) :=
  bif decide (d4 < d3) then
    bif inb d4 d2.length then
      (nth d2 d4.toNat).bind fun (x1 : XO) =>
      (c10 rf d1 x1).bind fun (y2 : XT × Bool) =>
      bif y2.2 then
        some (.inl (y2.1, d4))
      else
        k2 rb y2.1 d2 d3 (IntKind.i64.wrap (d4 + 1))
    else
      none
  else
    some (.inr d1)
theorem eb2 (rf : T.RF) (rb : T.RB) (d1 : XT) (d2 : List XO) (d3 : Int) (d4 : Int) : T.stepB rf rb 2 (d1, d2, d3, d4) = b2 rf rb d1 d2 d3 d4 := by kernel_rfl
theorem ob2 {d1 : XT} {d2 : List XO} {d3 : Int} {d4 : Int} {y : ((XT × Int) ⊕ XT)} (h : b2 T.rf T.rb d1 d2 d3 d4 = some y) : k2 T.rb d1 d2 d3 d4 = some y := T.rb_of (κ := 2) (d := (d1, d2, d3, d4)) ((eb2 T.rf T.rb d1 d2 d3 d4).trans h)

/- slices.IndexFunc[[]bailment/norm.Op,bailment/norm.Op] -/
noncomputable def r9 (rf : T.RF) (rb : T.RB) (d1 : XT) (d2 : List XO) : Option (XT × Int) :=
  (k2 rb d1 d2 (((d2.length : Nat) : Int)) 0).bind fun (z1 : (XT × Int) ⊕ XT) =>
  match z1 with
  | .inl u2 =>
    some u2
  | .inr w3 =>
    some (w3, (-1))
theorem er9 (rf : T.RF) (rb : T.RB) (d1 : XT) (d2 : List XO) : T.stepF rf rb 9 (d1, d2) = r9 rf rb d1 d2 := by kernel_rfl
theorem or9 {d1 : XT} {d2 : List XO} {y : (XT × Int)} (h : r9 T.rf T.rb d1 d2 = some y) : c9 T.rf d1 d2 = some y := T.rf_of (f := 9) (d := (d1, d2)) ((er9 T.rf T.rb d1 d2).trans h)

/- slices.ContainsFunc[[]bailment/norm.Op,bailment/norm.Op] -/
noncomputable def r8 (rf : T.RF) (rb : T.RB) (d1 : XT) (d2 : List XO) : Option (XT × Bool) :=
  (c9 rf d1 d2).bind fun (y1 : XT × Int) =>
  some (y1.1, decide (y1.2 ≥ 0))
theorem er8 (rf : T.RF) (rb : T.RB) (d1 : XT) (d2 : List XO) : T.stepF rf rb 8 (d1, d2) = r8 rf rb d1 d2 := by kernel_rfl
theorem or8 {d1 : XT} {d2 : List XO} {y : (XT × Bool)} (h : r8 T.rf T.rb d1 d2 = some y) : c8 T.rf d1 d2 = some y := T.rf_of (f := 8) (d := (d1, d2)) ((er8 T.rf T.rb d1 d2).trans h)

/- norm.Check$2 -/
noncomputable def r22 (rf : T.RF) (rb : T.RB) (d1 : XT) (d2 : Int) : Option (XT × Bool) :=
  bif decide (d2 < 0) then
    some (d1, true)
  else
    some (d1, decide (d2 ≥ (((d1.1.length : Nat) : Int))))
theorem er22 (rf : T.RF) (rb : T.RB) (d1 : XT) (d2 : Int) : T.stepF rf rb 22 (d1, d2) = r22 rf rb d1 d2 := by kernel_rfl
theorem or22 {d1 : XT} {d2 : Int} {y : (XT × Bool)} (h : r22 T.rf T.rb d1 d2 = some y) : c22 T.rf d1 d2 = some y := T.rf_of (f := 22) (d := (d1, d2)) ((er22 T.rf T.rb d1 d2).trans h)

/- slices.IndexFunc[[]int,int] loop 0 -/
noncomputable def b5 (rf : T.RF) (rb : T.RB) (d1 : XT) (d2 : List Int) (d3 : Int) (d4 : Int) : Option ((XT × Int) ⊕ XT) :=
  bif decide (d4 < d3) then
    bif inb d4 d2.length then
      (nth d2 d4.toNat).bind fun (x1 : Int) =>
      (c22 rf d1 x1).bind fun (y2 : XT × Bool) =>
      bif y2.2 then
        some (.inl (y2.1, d4))
      else
        k5 rb y2.1 d2 d3 (IntKind.i64.wrap (d4 + 1))
    else
      none
  else
    some (.inr d1)
theorem eb5 (rf : T.RF) (rb : T.RB) (d1 : XT) (d2 : List Int) (d3 : Int) (d4 : Int) : T.stepB rf rb 5 (d1, d2, d3, d4) = b5 rf rb d1 d2 d3 d4 := by kernel_rfl
theorem ob5 {d1 : XT} {d2 : List Int} {d3 : Int} {d4 : Int} {y : ((XT × Int) ⊕ XT)} (h : b5 T.rf T.rb d1 d2 d3 d4 = some y) : k5 T.rb d1 d2 d3 d4 = some y := T.rb_of (κ := 5) (d := (d1, d2, d3, d4)) ((eb5 T.rf T.rb d1 d2 d3 d4).trans h)

/- slices.IndexFunc[[]int,int] -/
noncomputable def r21 (rf : T.RF) (rb : T.RB) (d1 : XT) (d2 : List Int) : Option (XT × Int) :=
  (k5 rb d1 d2 (((d2.length : Nat) : Int)) 0).bind fun (z1 : (XT × Int) ⊕ XT) =>
  match z1 with
  | .inl u2 =>
    some u2
  | .inr w3 =>
    some (w3, (-1))
theorem er21 (rf : T.RF) (rb : T.RB) (d1 : XT) (d2 : List Int) : T.stepF rf rb 21 (d1, d2) = r21 rf rb d1 d2 := by kernel_rfl
theorem or21 {d1 : XT} {d2 : List Int} {y : (XT × Int)} (h : r21 T.rf T.rb d1 d2 = some y) : c21 T.rf d1 d2 = some y := T.rf_of (f := 21) (d := (d1, d2)) ((er21 T.rf T.rb d1 d2).trans h)

/- slices.ContainsFunc[[]int,int] -/
noncomputable def r20 (rf : T.RF) (rb : T.RB) (d1 : XT) (d2 : List Int) : Option (XT × Bool) :=
  (c21 rf d1 d2).bind fun (y1 : XT × Int) =>
  some (y1.1, decide (y1.2 ≥ 0))
theorem er20 (rf : T.RF) (rb : T.RB) (d1 : XT) (d2 : List Int) : T.stepF rf rb 20 (d1, d2) = r20 rf rb d1 d2 := by kernel_rfl
theorem or20 {d1 : XT} {d2 : List Int} {y : (XT × Bool)} (h : r20 T.rf T.rb d1 d2 = some y) : c20 T.rf d1 d2 = some y := T.rf_of (f := 20) (d := (d1, d2)) ((er20 T.rf T.rb d1 d2).trans h)

/- (bailment/norm.Net).goesRound loop 0 -/
noncomputable def b11 (rf : T.RF) (rb : T.RB) (d1 : XT) (d2 : List Int) (d3 : Int) (d4 : Int) : Option ((XT × List Int × Bool) ⊕ (XT × List Int)) :=
  bif decide (d4 < d3) then
    (k12 rb d1 d2 [d4]).bind fun (z1 : (XT × List Int × Bool) ⊕ (XT × List Int)) =>
    match z1 with
    | .inl u2 =>
      some (.inl u2)
    | .inr w3 =>
      k11 rb w3.1 w3.2 d3 (IntKind.i64.wrap (d4 + 1))
  else
    some (.inr (d1, d2))
theorem eb11 (rf : T.RF) (rb : T.RB) (d1 : XT) (d2 : List Int) (d3 : Int) (d4 : Int) : T.stepB rf rb 11 (d1, d2, d3, d4) = b11 rf rb d1 d2 d3 d4 := by kernel_rfl
theorem ob11 {d1 : XT} {d2 : List Int} {d3 : Int} {d4 : Int} {y : ((XT × List Int × Bool) ⊕ (XT × List Int))} (h : b11 T.rf T.rb d1 d2 d3 d4 = some y) : k11 T.rb d1 d2 d3 d4 = some y := T.rb_of (κ := 11) (d := (d1, d2, d3, d4)) ((eb11 T.rf T.rb d1 d2 d3 d4).trans h)

/- (bailment/norm.Net).goesRound loop 2 -/
noncomputable def b12 (rf : T.RF) (rb : T.RB) (d1 : XT) (d2 : List Int) (d3 : List Int) : Option ((XT × List Int × Bool) ⊕ (XT × List Int)) :=
  bif decide ((((d3.length : Nat) : Int)) > 0) then
    bif inb (IntKind.i64.wrap ((((d3.length : Nat) : Int)) - 1)) d3.length then
      (nth d3 (IntKind.i64.wrap ((((d3.length : Nat) : Int)) - 1)).toNat).bind fun (x1 : Int) =>
      bif inb x1 d2.length then
        (nth d2 x1.toNat).bind fun (x2 : Int) =>
        bif x2 != 0 then
          bif inb x1 d2.length then
            bif Nat.blt x1.toNat d2.length then
              bif inb' (IntKind.i64.wrap ((((d3.length : Nat) : Int)) - 1)) d3.length then
                k12 rb d1 (setNth d2 x1.toNat 2) (sub d3 (some (0, ((IntKind.i64.wrap ((((d3.length : Nat) : Int)) - 1)).toNat - 0))))
              else
                none
            else
              none
          else
            none
        else
        bif inb x1 d2.length then
          bif Nat.blt x1.toNat d2.length then
            bif inb x1 d1.1.length then
              (nth d1.1 x1.toNat).bind fun (x3 : XO) =>
              bif x3.1 == 21 then
                k12 rb d1 (setNth d2 x1.toNat 1) d3
              else
              bif inb x1 d1.1.length then
                (nth d1.1 x1.toNat).bind fun (x4 : XO) =>
                (c12 rf x4).bind fun (y5 : List Int × List Int) =>
                (k13 rb (setNth d2 x1.toNat 1) d3 y5.1 (((y5.1.length : Nat) : Int)) 0).bind fun (z6 : (List Int × Bool) ⊕ (List Int × List Int)) =>
                match z6 with
                | .inl u7 =>
                  some (.inl (d1, u7))
                | .inr w8 =>
                  k12 rb d1 w8.1 w8.2
              else
                none
            else
              none
          else
            none
        else
          none
      else
        none
    else
      none
  else
    some (.inr (d1, d2))
theorem eb12 (rf : T.RF) (rb : T.RB) (d1 : XT) (d2 : List Int) (d3 : List Int) : T.stepB rf rb 12 (d1, d2, d3) = b12 rf rb d1 d2 d3 := by kernel_rfl
theorem ob12 {d1 : XT} {d2 : List Int} {d3 : List Int} {y : ((XT × List Int × Bool) ⊕ (XT × List Int))} (h : b12 T.rf T.rb d1 d2 d3 = some y) : k12 T.rb d1 d2 d3 = some y := T.rb_of (κ := 12) (d := (d1, d2, d3)) ((eb12 T.rf T.rb d1 d2 d3).trans h)

/- (bailment/norm.Net).goesRound loop 4 -/
noncomputable def b13 (rf : T.RF) (rb : T.RB) (d1 : List Int) (d2 : List Int) (d3 : List Int) (d4 : Int) (d5 : Int) : Option ((List Int × Bool) ⊕ (List Int × List Int)) :=
  bif decide (d5 < d4) then
    bif inb d5 d3.length then
      (nth d3 d5.toNat).bind fun (x1 : Int) =>
      bif inb x1 d1.length then
        (nth d1 x1.toNat).bind fun (x2 : Int) =>
        bif x2 == 1 then
          some (.inl (d1, true))
        else
        bif x2 == 0 then
          bif (Nat.ble (d2.length + 1) most) && true then
            k13 rb d1 (d2 ++ [x1]) d3 d4 (IntKind.i64.wrap (d5 + 1))
          else
            none
        else
          k13 rb d1 d2 d3 d4 (IntKind.i64.wrap (d5 + 1))
      else
        none
    else
      none
  else
    some (.inr (d1, d2))
theorem eb13 (rf : T.RF) (rb : T.RB) (d1 : List Int) (d2 : List Int) (d3 : List Int) (d4 : Int) (d5 : Int) : T.stepB rf rb 13 (d1, d2, d3, d4, d5) = b13 rf rb d1 d2 d3 d4 d5 := by kernel_rfl
theorem ob13 {d1 : List Int} {d2 : List Int} {d3 : List Int} {d4 : Int} {d5 : Int} {y : ((List Int × Bool) ⊕ (List Int × List Int))} (h : b13 T.rf T.rb d1 d2 d3 d4 d5 = some y) : k13 T.rb d1 d2 d3 d4 d5 = some y := T.rb_of (κ := 13) (d := (d1, d2, d3, d4, d5)) ((eb13 T.rf T.rb d1 d2 d3 d4 d5).trans h)

/- (bailment/norm.Net).goesRound -/
noncomputable def r23 (rf : T.RF) (rb : T.RB) (d1 : XT) : Option Bool :=
  bif inb' (((d1.1.length : Nat) : Int)) most then
    bif inb' (((d1.1.length : Nat) : Int)) d1.1.length then
      (k11 rb d1 (List.replicate d1.1.length (0 : Int)) (((d1.1.length : Nat) : Int)) 0).bind fun (z1 : (XT × List Int × Bool) ⊕ (XT × List Int)) =>
      match z1 with
      | .inl u2 =>
        some u2.2.2
      | .inr w3 =>
        some false
    else
      none
  else
    none
theorem er23 (rf : T.RF) (rb : T.RB) (d1 : XT) : T.stepF rf rb 23 d1 = r23 rf rb d1 := by kernel_rfl
theorem or23 {d1 : XT} {y : Bool} (h : r23 T.rf T.rb d1 = some y) : c23 T.rf d1 = some y := T.rf_of (f := 23) (d := d1) ((er23 T.rf T.rb d1).trans h)

/- norm.Check -/
noncomputable def r7 (rf : T.RF) (rb : T.RB) (d1 : XT) : Option Int :=
  bif decide ((((d1.1.length : Nat) : Int)) > 100000) then
    some 1
  else
    (c8 rf d1 d1.1).bind fun (y1 : XT × Bool) =>
    bif y1.2 then
      some 1
    else
      (c20 rf y1.1 y1.1.2.1).bind fun (y2 : XT × Bool) =>
      bif y2.2 then
        some 1
      else
        (c23 rf y2.1).bind fun (y3 : Bool) =>
        bif y3 then
          some 12
        else
          some 0
theorem er7 (rf : T.RF) (rb : T.RB) (d1 : XT) : T.stepF rf rb 7 d1 = r7 rf rb d1 := by kernel_rfl
theorem or7 {d1 : XT} {y : Int} (h : r7 T.rf T.rb d1 = some y) : c7 T.rf d1 = some y := T.rf_of (f := 7) (d := d1) ((er7 T.rf T.rb d1).trans h)

/- sched.needs$1 -/
noncomputable def r27 (rf : T.RF) (rb : T.RB) (d1 : Int) : Option Bool :=
  some (decide (d1 < 0))
theorem er27 (rf : T.RF) (rb : T.RB) (d1 : Int) : T.stepF rf rb 27 d1 = r27 rf rb d1 := by kernel_rfl
theorem or27 {d1 : Int} {y : Bool} (h : r27 T.rf T.rb d1 = some y) : c27 T.rf d1 = some y := T.rf_of (f := 27) (d := d1) ((er27 T.rf T.rb d1).trans h)

/- slices.IndexFunc[[]int,int] loop 0 -/
noncomputable def b15 (rf : T.RF) (rb : T.RB) (d1 : List Int) (d2 : Int) (d3 : Int) : Option ((List Int × Int) ⊕ (List Int)) :=
  bif decide (d3 < d2) then
    bif inb d3 d1.length then
      (nth d1 d3.toNat).bind fun (x1 : Int) =>
      (c27 rf x1).bind fun (y2 : Bool) =>
      bif y2 then
        some (.inl (d1, d3))
      else
        k15 rb d1 d2 (IntKind.i64.wrap (d3 + 1))
    else
      none
  else
    some (.inr d1)
theorem eb15 (rf : T.RF) (rb : T.RB) (d1 : List Int) (d2 : Int) (d3 : Int) : T.stepB rf rb 15 (d1, d2, d3) = b15 rf rb d1 d2 d3 := by kernel_rfl
theorem ob15 {d1 : List Int} {d2 : Int} {d3 : Int} {y : ((List Int × Int) ⊕ (List Int))} (h : b15 T.rf T.rb d1 d2 d3 = some y) : k15 T.rb d1 d2 d3 = some y := T.rb_of (κ := 15) (d := (d1, d2, d3)) ((eb15 T.rf T.rb d1 d2 d3).trans h)

/- slices.IndexFunc[[]int,int] -/
noncomputable def r26 (rf : T.RF) (rb : T.RB) (d1 : List Int) : Option (List Int × Int) :=
  (k15 rb d1 (((d1.length : Nat) : Int)) 0).bind fun (z1 : (List Int × Int) ⊕ (List Int)) =>
  match z1 with
  | .inl u2 =>
    some u2
  | .inr w3 =>
    some (w3, (-1))
theorem er26 (rf : T.RF) (rb : T.RB) (d1 : List Int) : T.stepF rf rb 26 d1 = r26 rf rb d1 := by kernel_rfl
theorem or26 {d1 : List Int} {y : (List Int × Int)} (h : r26 T.rf T.rb d1 = some y) : c26 T.rf d1 = some y := T.rf_of (f := 26) (d := d1) ((er26 T.rf T.rb d1).trans h)

/- slices.DeleteFunc[[]int,int] loop 0 -/
noncomputable def b16 (rf : T.RF) (rb : T.RB) (d1 : List Int) (d2 : Int) (d3 : Int) : Option (List Int × Int) :=
  bif decide (d3 < (((d1.length : Nat) : Int))) then
    bif inb d3 d1.length then
      (nth d1 d3.toNat).bind fun (x1 : Int) =>
      (c27 rf x1).bind fun (y2 : Bool) =>
      bif !y2 then
        bif inb d2 d1.length then
          bif Nat.blt d2.toNat d1.length then
            k16 rb (setNth d1 d2.toNat x1) (IntKind.i64.wrap (d2 + 1)) (IntKind.i64.wrap (d3 + 1))
          else
            none
        else
          none
      else
        k16 rb d1 d2 (IntKind.i64.wrap (d3 + 1))
    else
      none
  else
    some (d1, d2)
theorem eb16 (rf : T.RF) (rb : T.RB) (d1 : List Int) (d2 : Int) (d3 : Int) : T.stepB rf rb 16 (d1, d2, d3) = b16 rf rb d1 d2 d3 := by kernel_rfl
theorem ob16 {d1 : List Int} {d2 : Int} {d3 : Int} {y : (List Int × Int)} (h : b16 T.rf T.rb d1 d2 d3 = some y) : k16 T.rb d1 d2 d3 = some y := T.rb_of (κ := 16) (d := (d1, d2, d3)) ((eb16 T.rf T.rb d1 d2 d3).trans h)

/- slices.DeleteFunc[[]int,int] -/
noncomputable def r25 (rf : T.RF) (rb : T.RB) (d1 : List Int) : Option ((List Int) ⊕ (List Int)) :=
  (c26 rf d1).bind fun (y1 : List Int × Int) =>
  bif y1.2 == (-1) then
    some (.inl y1.1)
  else
    (k16 rb y1.1 y1.2 (IntKind.i64.wrap (y1.2 + 1))).bind fun (z2 : List Int × Int) =>
    bif inb' z2.2 z2.1.length then
      bif Nat.ble (z2.2.toNat + (List.replicate (z2.1.length - z2.2.toNat) (0 : Int)).length) z2.1.length then
        bif inb' z2.2 (((List.take z2.2.toNat z2.1) ++ (List.replicate (z2.1.length - z2.2.toNat) (0 : Int))) ++ (List.drop (z2.2.toNat + (List.replicate (z2.1.length - z2.2.toNat) (0 : Int)).length) z2.1)).length then
          some (.inr (sub (((List.take z2.2.toNat z2.1) ++ (List.replicate (z2.1.length - z2.2.toNat) (0 : Int))) ++ (List.drop (z2.2.toNat + (List.replicate (z2.1.length - z2.2.toNat) (0 : Int)).length) z2.1)) (some (0, (z2.2.toNat - 0)))))
        else
          none
      else
        none
    else
      none
theorem er25 (rf : T.RF) (rb : T.RB) (d1 : List Int) : T.stepF rf rb 25 d1 = r25 rf rb d1 := by kernel_rfl
theorem or25 {d1 : List Int} {y : ((List Int) ⊕ (List Int))} (h : r25 T.rf T.rb d1 = some y) : c25 T.rf d1 = some y := T.rf_of (f := 25) (d := d1) ((er25 T.rf T.rb d1).trans h)

/- sched.needs -/
noncomputable def r24 (rf : T.RF) (rb : T.RB) (d1 : XO) : Option (List Int) :=
  bif d1.1 == 21 then
    some []
  else
    (c25 rf [d1.2.1, d1.2.2.1, d1.2.2.2.1]).bind fun (y1 : (List Int) ⊕ (List Int)) =>
    match y1 with
    | .inl u2 =>
      some u2
    | .inr w3 =>
      some w3
theorem er24 (rf : T.RF) (rb : T.RB) (d1 : XO) : T.stepF rf rb 24 d1 = r24 rf rb d1 := by kernel_rfl
theorem or24 {d1 : XO} {y : (List Int)} (h : r24 T.rf T.rb d1 = some y) : c24 T.rf d1 = some y := T.rf_of (f := 24) (d := d1) ((er24 T.rf T.rb d1).trans h)

/- (*bailment/sched.ready).Push -/
noncomputable def r29q (rf : T.RF) (rb : T.RB) (d1 : List Int) (d2 : Int) : Option (List Int) :=
  agN 2 (
    bif (Nat.ble (d1.length + 1) most) && true then
      some (d1 ++ [d2])
    else
      none
  )
noncomputable def r29 (rf : T.RF) (rb : T.RB) (d1 : List Int) (d2 : Int) : Option (List Int) :=
  bif (Nat.ble (d1.length + 1) most) && true then
    some (d1 ++ [d2])
  else
    none
theorem er29 (rf : T.RF) (rb : T.RB) (d1 : List Int) (d2 : Int) : T.stepF rf rb 29 (d1, d2) = r29q rf rb d1 d2 := by kernel_rfl
theorem sr29 (rf : T.RF) (rb : T.RB) (d1 : List Int) (d2 : Int) : r29q rf rb d1 d2 = r29 rf rb d1 d2 := by
  unfold r29q r29; simp only [agN_eq, agree_self, agree_swap]
theorem or29 {d1 : List Int} {d2 : Int} {y : (List Int)} (h : r29 T.rf T.rb d1 d2 = some y) : c29 T.rf d1 d2 = some y := T.rf_of (f := 29) (d := (d1, d2)) (((er29 T.rf T.rb d1 d2).trans (sr29 T.rf T.rb d1 d2)).trans h)

/- (bailment/sched.ready).Len -/
noncomputable def r30 (rf : T.RF) (rb : T.RB) (d1 : List Int) : Option (List Int × Int) :=
  some (d1, ((d1.length : Nat) : Int))
theorem er30 (rf : T.RF) (rb : T.RB) (d1 : List Int) : T.stepF rf rb 30 d1 = r30 rf rb d1 := by kernel_rfl
theorem or30 {d1 : List Int} {y : (List Int × Int)} (h : r30 T.rf T.rb d1 = some y) : c30 T.rf d1 = some y := T.rf_of (f := 30) (d := d1) ((er30 T.rf T.rb d1).trans h)

/- (bailment/sched.ready).Less -/
noncomputable def r32 (rf : T.RF) (rb : T.RB) (d1 : List Int) (d2 : Int) (d3 : Int) : Option (List Int × Bool) :=
  bif inb d2 d1.length then
    (nth d1 d2.toNat).bind fun (x1 : Int) =>
    bif inb d3 d1.length then
      (nth d1 d3.toNat).bind fun (x2 : Int) =>
      some (d1, decide (x1 < x2))
    else
      none
  else
    none
theorem er32 (rf : T.RF) (rb : T.RB) (d1 : List Int) (d2 : Int) (d3 : Int) : T.stepF rf rb 32 (d1, d2, d3) = r32 rf rb d1 d2 d3 := by kernel_rfl
theorem or32 {d1 : List Int} {d2 : Int} {d3 : Int} {y : (List Int × Bool)} (h : r32 T.rf T.rb d1 d2 d3 = some y) : c32 T.rf d1 d2 d3 = some y := T.rf_of (f := 32) (d := (d1, d2, d3)) ((er32 T.rf T.rb d1 d2 d3).trans h)

/- (bailment/sched.ready).Swap -/
noncomputable def r33q (rf : T.RF) (rb : T.RB) (d1 : List Int) (d2 : Int) (d3 : Int) : Option (List Int) :=
  bif inb d3 d1.length then
    bif inb d2 d1.length then
      agree (
        (nth d1 d3.toNat).bind fun (x1 : Int) =>
        (nth d1 d2.toNat).bind fun (x2 : Int) =>
        bif inb d2 d1.length then
          bif Nat.blt d2.toNat d1.length then
            bif inb d3 (setNth d1 d2.toNat x1).length then
              bif Nat.blt d3.toNat (setNth d1 d2.toNat x1).length then
                some (setNth (setNth d1 d2.toNat x1) d3.toNat x2)
              else
                none
            else
              none
          else
            none
        else
          none
      ) (
        (nth d1 d2.toNat).bind fun (x1 : Int) =>
        (nth d1 d3.toNat).bind fun (x2 : Int) =>
        bif inb d2 d1.length then
          bif Nat.blt d2.toNat d1.length then
            bif inb d3 (setNth d1 d2.toNat x2).length then
              bif Nat.blt d3.toNat (setNth d1 d2.toNat x2).length then
                some (setNth (setNth d1 d2.toNat x2) d3.toNat x1)
              else
                none
            else
              none
          else
            none
        else
          none
      )
    else
      none
  else
    none
noncomputable def r33 (rf : T.RF) (rb : T.RB) (d1 : List Int) (d2 : Int) (d3 : Int) : Option (List Int) :=
  bif inb d3 d1.length then
    bif inb d2 d1.length then
      (nth d1 d3.toNat).bind fun (x1 : Int) =>
      (nth d1 d2.toNat).bind fun (x2 : Int) =>
      bif inb d2 d1.length then
        bif Nat.blt d2.toNat d1.length then
          bif inb d3 (setNth d1 d2.toNat x1).length then
            bif Nat.blt d3.toNat (setNth d1 d2.toNat x1).length then
              some (setNth (setNth d1 d2.toNat x1) d3.toNat x2)
            else
              none
          else
            none
        else
          none
      else
        none
    else
      none
  else
    none
theorem er33 (rf : T.RF) (rb : T.RB) (d1 : List Int) (d2 : Int) (d3 : Int) : T.stepF rf rb 33 (d1, d2, d3) = r33q rf rb d1 d2 d3 := by kernel_rfl
theorem sr33 (rf : T.RF) (rb : T.RB) (d1 : List Int) (d2 : Int) (d3 : Int) : r33q rf rb d1 d2 d3 = r33 rf rb d1 d2 d3 := by
  unfold r33q r33; simp only [agN_eq, agree_self, agree_swap]
theorem or33 {d1 : List Int} {d2 : Int} {d3 : Int} {y : (List Int)} (h : r33 T.rf T.rb d1 d2 d3 = some y) : c33 T.rf d1 d2 d3 = some y := T.rf_of (f := 33) (d := (d1, d2, d3)) (((er33 T.rf T.rb d1 d2 d3).trans (sr33 T.rf T.rb d1 d2 d3)).trans h)

/- container/heap.up loop 0 -/
noncomputable def b18 (rf : T.RF) (rb : T.RB) (d1 : List Int) (d2 : Int) : Option (List Int) :=
  bif (IntKind.i64.wrap (Int.tdiv (IntKind.i64.wrap (d2 - 1)) 2)) == d2 then
    some d1
  else
    (c32 rf d1 d2 (IntKind.i64.wrap (Int.tdiv (IntKind.i64.wrap (d2 - 1)) 2))).bind fun (y1 : List Int × Bool) =>
    bif !y1.2 then
      some y1.1
    else
      (c33 rf y1.1 (IntKind.i64.wrap (Int.tdiv (IntKind.i64.wrap (d2 - 1)) 2)) d2).bind fun (y2 : List Int) =>
      k18 rb y2 (IntKind.i64.wrap (Int.tdiv (IntKind.i64.wrap (d2 - 1)) 2))
theorem eb18 (rf : T.RF) (rb : T.RB) (d1 : List Int) (d2 : Int) : T.stepB rf rb 18 (d1, d2) = b18 rf rb d1 d2 := by kernel_rfl
theorem ob18 {d1 : List Int} {d2 : Int} {y : (List Int)} (h : b18 T.rf T.rb d1 d2 = some y) : k18 T.rb d1 d2 = some y := T.rb_of (κ := 18) (d := (d1, d2)) ((eb18 T.rf T.rb d1 d2).trans h)

/- container/heap.up -/
noncomputable def r31 (rf : T.RF) (rb : T.RB) (d1 : List Int) (d2 : Int) : Option (List Int) :=
  (k18 rb d1 d2).bind fun (z1 : List Int) =>
  some z1
theorem er31 (rf : T.RF) (rb : T.RB) (d1 : List Int) (d2 : Int) : T.stepF rf rb 31 (d1, d2) = r31 rf rb d1 d2 := by kernel_rfl
theorem or31 {d1 : List Int} {d2 : Int} {y : (List Int)} (h : r31 T.rf T.rb d1 d2 = some y) : c31 T.rf d1 d2 = some y := T.rf_of (f := 31) (d := (d1, d2)) ((er31 T.rf T.rb d1 d2).trans h)

/- container/heap.Push -/
noncomputable def r28 (rf : T.RF) (rb : T.RB) (d1 : List Int) (d2 : Int) : Option (List Int) :=
  (c29 rf d1 d2).bind fun (y1 : List Int) =>
  (c30 rf y1).bind fun (y2 : List Int × Int) =>
  (c31 rf y2.1 (IntKind.i64.wrap (y2.2 - 1))).bind fun (y3 : List Int) =>
  some y3
theorem er28 (rf : T.RF) (rb : T.RB) (d1 : List Int) (d2 : Int) : T.stepF rf rb 28 (d1, d2) = r28 rf rb d1 d2 := by kernel_rfl
theorem or28 {d1 : List Int} {d2 : Int} {y : (List Int)} (h : r28 T.rf T.rb d1 d2 = some y) : c28 T.rf d1 d2 = some y := T.rf_of (f := 28) (d := (d1, d2)) ((er28 T.rf T.rb d1 d2).trans h)

/- container/heap.down loop 0 -/
noncomputable def b22 (rf : T.RF) (rb : T.RB) (d1 : List Int) (d2 : Int) (d3 : Int) : Option (List Int × Int) :=
  bif decide ((IntKind.i64.wrap ((IntKind.i64.wrap (2 * d3)) + 1)) ≥ d2) then
    some (d1, d3)
  else
  bif decide ((IntKind.i64.wrap ((IntKind.i64.wrap (2 * d3)) + 1)) < 0) then
    some (d1, d3)
  else
  bif decide ((IntKind.i64.wrap ((IntKind.i64.wrap ((IntKind.i64.wrap (2 * d3)) + 1)) + 1)) < d2) then
    (c32 rf d1 (IntKind.i64.wrap ((IntKind.i64.wrap ((IntKind.i64.wrap (2 * d3)) + 1)) + 1)) (IntKind.i64.wrap ((IntKind.i64.wrap (2 * d3)) + 1))).bind fun (y1 : List Int × Bool) =>
    bif y1.2 then
      (c32 rf y1.1 (IntKind.i64.wrap ((IntKind.i64.wrap ((IntKind.i64.wrap (2 * d3)) + 1)) + 1)) d3).bind fun (y2 : List Int × Bool) =>
      bif !y2.2 then
        some (y2.1, d3)
      else
        (c33 rf y2.1 d3 (IntKind.i64.wrap ((IntKind.i64.wrap ((IntKind.i64.wrap (2 * d3)) + 1)) + 1))).bind fun (y3 : List Int) =>
        k22 rb y3 d2 (IntKind.i64.wrap ((IntKind.i64.wrap ((IntKind.i64.wrap (2 * d3)) + 1)) + 1))
    else
      (c32 rf y1.1 (IntKind.i64.wrap ((IntKind.i64.wrap (2 * d3)) + 1)) d3).bind fun (y4 : List Int × Bool) =>
      bif !y4.2 then
        some (y4.1, d3)
      else
        (c33 rf y4.1 d3 (IntKind.i64.wrap ((IntKind.i64.wrap (2 * d3)) + 1))).bind fun (y5 : List Int) =>
        k22 rb y5 d2 (IntKind.i64.wrap ((IntKind.i64.wrap (2 * d3)) + 1))
  else
    (c32 rf d1 (IntKind.i64.wrap ((IntKind.i64.wrap (2 * d3)) + 1)) d3).bind fun (y6 : List Int × Bool) =>
    bif !y6.2 then
      some (y6.1, d3)
    else
      (c33 rf y6.1 d3 (IntKind.i64.wrap ((IntKind.i64.wrap (2 * d3)) + 1))).bind fun (y7 : List Int) =>
      k22 rb y7 d2 (IntKind.i64.wrap ((IntKind.i64.wrap (2 * d3)) + 1))
theorem eb22 (rf : T.RF) (rb : T.RB) (d1 : List Int) (d2 : Int) (d3 : Int) : T.stepB rf rb 22 (d1, d2, d3) = b22 rf rb d1 d2 d3 := by kernel_rfl
theorem ob22 {d1 : List Int} {d2 : Int} {d3 : Int} {y : (List Int × Int)} (h : b22 T.rf T.rb d1 d2 d3 = some y) : k22 T.rb d1 d2 d3 = some y := T.rb_of (κ := 22) (d := (d1, d2, d3)) ((eb22 T.rf T.rb d1 d2 d3).trans h)

/- container/heap.down -/
noncomputable def r35 (rf : T.RF) (rb : T.RB) (d1 : List Int) (d2 : Int) (d3 : Int) : Option (List Int × Bool) :=
  (k22 rb d1 d3 d2).bind fun (z1 : List Int × Int) =>
  some (z1.1, decide (z1.2 > d2))
theorem er35 (rf : T.RF) (rb : T.RB) (d1 : List Int) (d2 : Int) (d3 : Int) : T.stepF rf rb 35 (d1, d2, d3) = r35 rf rb d1 d2 d3 := by kernel_rfl
theorem or35 {d1 : List Int} {d2 : Int} {d3 : Int} {y : (List Int × Bool)} (h : r35 T.rf T.rb d1 d2 d3 = some y) : c35 T.rf d1 d2 d3 = some y := T.rf_of (f := 35) (d := (d1, d2, d3)) ((er35 T.rf T.rb d1 d2 d3).trans h)

/- (*bailment/sched.ready).Pop -/
noncomputable def r36 (rf : T.RF) (rb : T.RB) (d1 : List Int) : Option (List Int × Int) :=
  bif inb (IntKind.i64.wrap ((((d1.length : Nat) : Int)) - 1)) d1.length then
    (nth d1 (IntKind.i64.wrap ((((d1.length : Nat) : Int)) - 1)).toNat).bind fun (x1 : Int) =>
    bif inb' (IntKind.i64.wrap ((((d1.length : Nat) : Int)) - 1)) d1.length then
      some (sub d1 (some (0, ((IntKind.i64.wrap ((((d1.length : Nat) : Int)) - 1)).toNat - 0))), x1)
    else
      none
  else
    none
theorem er36 (rf : T.RF) (rb : T.RB) (d1 : List Int) : T.stepF rf rb 36 d1 = r36 rf rb d1 := by kernel_rfl
theorem or36 {d1 : List Int} {y : (List Int × Int)} (h : r36 T.rf T.rb d1 = some y) : c36 T.rf d1 = some y := T.rf_of (f := 36) (d := d1) ((er36 T.rf T.rb d1).trans h)

/- container/heap.Pop -/
noncomputable def r34 (rf : T.RF) (rb : T.RB) (d1 : List Int) : Option (List Int × Int) :=
  (c30 rf d1).bind fun (y1 : List Int × Int) =>
  (c33 rf y1.1 0 (IntKind.i64.wrap (y1.2 - 1))).bind fun (y2 : List Int) =>
  (c35 rf y2 0 (IntKind.i64.wrap (y1.2 - 1))).bind fun (y3 : List Int × Bool) =>
  (c36 rf y3.1).bind fun (y4 : List Int × Int) =>
  some y4
theorem er34 (rf : T.RF) (rb : T.RB) (d1 : List Int) : T.stepF rf rb 34 d1 = r34 rf rb d1 := by kernel_rfl
theorem or34 {d1 : List Int} {y : (List Int × Int)} (h : r34 T.rf T.rb d1 = some y) : c34 T.rf d1 = some y := T.rf_of (f := 34) (d := d1) ((er34 T.rf T.rb d1).trans h)

/- sched.Order loop 0 -/
noncomputable def b36 (rf : T.RF) (rb : T.RB) (d1 : List Int) (d2 : List (List Int)) (d3 : List Int) (d4 : List XO) (d5 : Int) (d6 : Int) : Option (List Int × List (List Int) × List Int) :=
  bif decide (d6 < d5) then
    bif inb d6 d4.length then
      (nth d4 d6.toNat).bind fun (x1 : XO) =>
      (c24 rf x1).bind fun (y2 : List Int) =>
      (k37 rb d1 d2 y2 d6 (((y2.length : Nat) : Int)) 0).bind fun (z3 : List Int × List (List Int) × List Int) =>
      bif inb d6 z3.1.length then
        (nth z3.1 d6.toNat).bind fun (x4 : Int) =>
        bif x4 == 0 then
          (c28 rf d3 d6).bind fun (y5 : List Int) =>
          k36 rb z3.1 z3.2.1 y5 d4 d5 (IntKind.i64.wrap (d6 + 1))
        else
          k36 rb z3.1 z3.2.1 d3 d4 d5 (IntKind.i64.wrap (d6 + 1))
      else
        none
    else
      none
  else
    some (d1, d2, d3)
theorem eb36 (rf : T.RF) (rb : T.RB) (d1 : List Int) (d2 : List (List Int)) (d3 : List Int) (d4 : List XO) (d5 : Int) (d6 : Int) : T.stepB rf rb 36 (d1, d2, d3, d4, d5, d6) = b36 rf rb d1 d2 d3 d4 d5 d6 := by kernel_rfl
theorem ob36 {d1 : List Int} {d2 : List (List Int)} {d3 : List Int} {d4 : List XO} {d5 : Int} {d6 : Int} {y : (List Int × List (List Int) × List Int)} (h : b36 T.rf T.rb d1 d2 d3 d4 d5 d6 = some y) : k36 T.rb d1 d2 d3 d4 d5 d6 = some y := T.rb_of (κ := 36) (d := (d1, d2, d3, d4, d5, d6)) ((eb36 T.rf T.rb d1 d2 d3 d4 d5 d6).trans h)

/- sched.Order loop 2 -/
noncomputable def b37 (rf : T.RF) (rb : T.RB) (d1 : List Int) (d2 : List (List Int)) (d3 : List Int) (d4 : Int) (d5 : Int) (d6 : Int) : Option (List Int × List (List Int) × List Int) :=
  bif decide (d6 < d5) then
    bif inb d6 d3.length then
      (nth d3 d6.toNat).bind fun (x1 : Int) =>
      bif inb x1 d2.length then
        (nth d2 x1.toNat).bind fun (x2 : List Int) =>
        bif (Nat.ble (x2.length + 1) most) && true then
          bif inb x1 d2.length then
            bif Nat.beq x1.toNat x1.toNat && ((Nat.blt x1.toNat d2.length) && true) then
              bif inb d4 d1.length then
                (nth d1 d4.toNat).bind fun (x3 : Int) =>
                bif inb d4 d1.length then
                  bif Nat.blt d4.toNat d1.length then
                    k37 rb (setNth d1 d4.toNat (IntKind.i64.wrap (x3 + 1))) (setNth d2 x1.toNat (x2 ++ [d4])) d3 d4 d5 (IntKind.i64.wrap (d6 + 1))
                  else
                    none
                else
                  none
              else
                none
            else
              none
          else
            none
        else
          none
      else
        none
    else
      none
  else
    some (d1, d2, d3)
theorem eb37 (rf : T.RF) (rb : T.RB) (d1 : List Int) (d2 : List (List Int)) (d3 : List Int) (d4 : Int) (d5 : Int) (d6 : Int) : T.stepB rf rb 37 (d1, d2, d3, d4, d5, d6) = b37 rf rb d1 d2 d3 d4 d5 d6 := by kernel_rfl
theorem ob37 {d1 : List Int} {d2 : List (List Int)} {d3 : List Int} {d4 : Int} {d5 : Int} {d6 : Int} {y : (List Int × List (List Int) × List Int)} (h : b37 T.rf T.rb d1 d2 d3 d4 d5 d6 = some y) : k37 T.rb d1 d2 d3 d4 d5 d6 = some y := T.rb_of (κ := 37) (d := (d1, d2, d3, d4, d5, d6)) ((eb37 T.rf T.rb d1 d2 d3 d4 d5 d6).trans h)

/- sched.Order loop 4 -/
noncomputable def b38 (rf : T.RF) (rb : T.RB) (d1 : List Int) (d2 : List Int) (d3 : List Int) (d4 : List (List Int)) : Option (List Int × List Int × List Int) :=
  bif decide ((((d3.length : Nat) : Int)) > 0) then
    (c34 rf d3).bind fun (y1 : List Int × Int) =>
    bif (Nat.ble (d2.length + 1) most) && true then
      bif inb y1.2 d4.length then
        (nth d4 y1.2.toNat).bind fun (x2 : List Int) =>
        (k39 rb d1 y1.1 x2 (((x2.length : Nat) : Int)) 0).bind fun (z3 : List Int × List Int) =>
        k38 rb z3.1 (d2 ++ [y1.2]) z3.2 d4
      else
        none
    else
      none
  else
    some (d1, d2, d3)
theorem eb38 (rf : T.RF) (rb : T.RB) (d1 : List Int) (d2 : List Int) (d3 : List Int) (d4 : List (List Int)) : T.stepB rf rb 38 (d1, d2, d3, d4) = b38 rf rb d1 d2 d3 d4 := by kernel_rfl
theorem ob38 {d1 : List Int} {d2 : List Int} {d3 : List Int} {d4 : List (List Int)} {y : (List Int × List Int × List Int)} (h : b38 T.rf T.rb d1 d2 d3 d4 = some y) : k38 T.rb d1 d2 d3 d4 = some y := T.rb_of (κ := 38) (d := (d1, d2, d3, d4)) ((eb38 T.rf T.rb d1 d2 d3 d4).trans h)

/- sched.Order loop 6 -/
noncomputable def b39 (rf : T.RF) (rb : T.RB) (d1 : List Int) (d2 : List Int) (d3 : List Int) (d4 : Int) (d5 : Int) : Option (List Int × List Int) :=
  bif decide (d5 < d4) then
    bif inb d5 d3.length then
      (nth d3 d5.toNat).bind fun (x1 : Int) =>
      bif inb x1 d1.length then
        (nth d1 x1.toNat).bind fun (x2 : Int) =>
        bif inb x1 d1.length then
          bif Nat.blt x1.toNat d1.length then
            bif inb x1 (setNth d1 x1.toNat (IntKind.i64.wrap (x2 - 1))).length then
              (nth (setNth d1 x1.toNat (IntKind.i64.wrap (x2 - 1))) x1.toNat).bind fun (x3 : Int) =>
              bif x3 == 0 then
                (c28 rf d2 x1).bind fun (y4 : List Int) =>
                k39 rb (setNth d1 x1.toNat (IntKind.i64.wrap (x2 - 1))) y4 d3 d4 (IntKind.i64.wrap (d5 + 1))
              else
                k39 rb (setNth d1 x1.toNat (IntKind.i64.wrap (x2 - 1))) d2 d3 d4 (IntKind.i64.wrap (d5 + 1))
            else
              none
          else
            none
        else
          none
      else
        none
    else
      none
  else
    some (d1, d2)
theorem eb39 (rf : T.RF) (rb : T.RB) (d1 : List Int) (d2 : List Int) (d3 : List Int) (d4 : Int) (d5 : Int) : T.stepB rf rb 39 (d1, d2, d3, d4, d5) = b39 rf rb d1 d2 d3 d4 d5 := by kernel_rfl
theorem ob39 {d1 : List Int} {d2 : List Int} {d3 : List Int} {d4 : Int} {d5 : Int} {y : (List Int × List Int)} (h : b39 T.rf T.rb d1 d2 d3 d4 d5 = some y) : k39 T.rb d1 d2 d3 d4 d5 = some y := T.rb_of (κ := 39) (d := (d1, d2, d3, d4, d5)) ((eb39 T.rf T.rb d1 d2 d3 d4 d5).trans h)

/- sched.Order -/
noncomputable def r6 (rf : T.RF) (rb : T.RB) (d1 : XT) : Option (List Int × Int) :=
  (c7 rf d1).bind fun (y1 : Int) =>
  bif y1 != 0 then
    some ([], y1)
  else
  bif inb' (((d1.1.length : Nat) : Int)) most then
    bif inb' (((d1.1.length : Nat) : Int)) d1.1.length then
      bif inb' (((d1.1.length : Nat) : Int)) most then
        bif inb' (((d1.1.length : Nat) : Int)) d1.1.length then
          (k36 rb (List.replicate d1.1.length (0 : Int)) (List.replicate d1.1.length []) [] d1.1 (((d1.1.length : Nat) : Int)) 0).bind fun (z2 : List Int × List (List Int) × List Int) =>
          (k38 rb z2.1 [] z2.2.2 z2.2.1).bind fun (z3 : List Int × List Int × List Int) =>
          some (z3.2.1, 0)
        else
          none
      else
        none
    else
      none
  else
    none
theorem er6 (rf : T.RF) (rb : T.RB) (d1 : XT) : T.stepF rf rb 6 d1 = r6 rf rb d1 := by kernel_rfl
theorem or6 {d1 : XT} {y : (List Int × Int)} (h : r6 T.rf T.rb d1 = some y) : c6 T.rf d1 = some y := T.rf_of (f := 6) (d := d1) ((er6 T.rf T.rb d1).trans h)

/- slices.Clone[[]int,int] -/
noncomputable def r37 (rf : T.RF) (rb : T.RB) (d1 : List Int) : Option (List Int) :=
  bif d1.isEmpty then
    agree (
      some []
    ) (
      bif (Nat.ble (0 + d1.length) most) && true then
        some ([] ++ d1)
      else
        none
    )
  else
  bif (Nat.ble (0 + d1.length) most) && true then
    some ([] ++ d1)
  else
    none
theorem er37 (rf : T.RF) (rb : T.RB) (d1 : List Int) : T.stepF rf rb 37 d1 = r37 rf rb d1 := by kernel_rfl
theorem or37 {d1 : List Int} {y : (List Int)} (h : r37 T.rf T.rb d1 = some y) : c37 T.rf d1 = some y := T.rf_of (f := 37) (d := d1) ((er37 T.rf T.rb d1).trans h)

/- sched.Sort loop 0 -/
noncomputable def b51 (rf : T.RF) (rb : T.RB) (d1 : List Int) (d2 : List Int) (d3 : Int) (d4 : Int) : Option (List Int × List Int) :=
  bif decide (d4 < d3) then
    bif inb d4 d2.length then
      (nth d2 d4.toNat).bind fun (x1 : Int) =>
      bif inb x1 d1.length then
        bif Nat.blt x1.toNat d1.length then
          k51 rb (setNth d1 x1.toNat d4) d2 d3 (IntKind.i64.wrap (d4 + 1))
        else
          none
      else
        none
    else
      none
  else
    some (d1, d2)
theorem eb51 (rf : T.RF) (rb : T.RB) (d1 : List Int) (d2 : List Int) (d3 : Int) (d4 : Int) : T.stepB rf rb 51 (d1, d2, d3, d4) = b51 rf rb d1 d2 d3 d4 := by kernel_rfl
theorem ob51 {d1 : List Int} {d2 : List Int} {d3 : Int} {d4 : Int} {y : (List Int × List Int)} (h : b51 T.rf T.rb d1 d2 d3 d4 = some y) : k51 T.rb d1 d2 d3 d4 = some y := T.rb_of (κ := 51) (d := (d1, d2, d3, d4)) ((eb51 T.rf T.rb d1 d2 d3 d4).trans h)

/- sched.Sort loop 2 -/
noncomputable def b52 (rf : T.RF) (rb : T.RB) (d1 : XT) (d2 : List Int) (d3 : List Int) (d4 : List XO) (d5 : List Int) (d6 : List Int) (d7 : Int) (d8 : Int) : Option (XT × List Int × List Int × List Int × List Int × List XO) :=
  bif decide (d8 < d7) then
    bif inb d8 d3.length then
      (nth d3 d8.toNat).bind fun (x1 : Int) =>
      bif inb x1 d1.1.length then
        (nth d1.1 x1.toNat).bind fun (x2 : XO) =>
        bif decide (x2.2.1 ≥ 0) then
          bif inb x2.2.1 d2.length then
            (nth d2 x2.2.1.toNat).bind fun (x3 : Int) =>
            bif decide (x2.2.2.1 ≥ 0) then
              bif inb x2.2.2.1 d2.length then
                (nth d2 x2.2.2.1.toNat).bind fun (x4 : Int) =>
                bif decide (x2.2.2.2.1 ≥ 0) then
                  bif inb x2.2.2.2.1 d2.length then
                    (nth d2 x2.2.2.2.1.toNat).bind fun (x5 : Int) =>
                    bif (Nat.ble (d4.length + 1) most) && true then
                      k52 rb d1 d2 d3 (d4 ++ [(x2.1, x3, x4, x5, x2.2.2.2.2)]) d5 d6 d7 (IntKind.i64.wrap (d8 + 1))
                    else
                      none
                  else
                    none
                else
                bif (Nat.ble (d4.length + 1) most) && true then
                  k52 rb d1 d2 d3 (d4 ++ [(x2.1, x3, x4, x2.2.2.2)]) d5 d6 d7 (IntKind.i64.wrap (d8 + 1))
                else
                  none
              else
                none
            else
            bif decide (x2.2.2.2.1 ≥ 0) then
              bif inb x2.2.2.2.1 d2.length then
                (nth d2 x2.2.2.2.1.toNat).bind fun (x6 : Int) =>
                bif (Nat.ble (d4.length + 1) most) && true then
                  k52 rb d1 d2 d3 (d4 ++ [(x2.1, x3, x2.2.2.1, x6, x2.2.2.2.2)]) d5 d6 d7 (IntKind.i64.wrap (d8 + 1))
                else
                  none
              else
                none
            else
            bif (Nat.ble (d4.length + 1) most) && true then
              k52 rb d1 d2 d3 (d4 ++ [(x2.1, x3, x2.2.2)]) d5 d6 d7 (IntKind.i64.wrap (d8 + 1))
            else
              none
          else
            none
        else
        bif decide (x2.2.2.1 ≥ 0) then
          bif inb x2.2.2.1 d2.length then
            (nth d2 x2.2.2.1.toNat).bind fun (x7 : Int) =>
            bif decide (x2.2.2.2.1 ≥ 0) then
              bif inb x2.2.2.2.1 d2.length then
                (nth d2 x2.2.2.2.1.toNat).bind fun (x8 : Int) =>
                bif (Nat.ble (d4.length + 1) most) && true then
                  k52 rb d1 d2 d3 (d4 ++ [(x2.1, x2.2.1, x7, x8, x2.2.2.2.2)]) d5 d6 d7 (IntKind.i64.wrap (d8 + 1))
                else
                  none
              else
                none
            else
            bif (Nat.ble (d4.length + 1) most) && true then
              k52 rb d1 d2 d3 (d4 ++ [(x2.1, x2.2.1, x7, x2.2.2.2)]) d5 d6 d7 (IntKind.i64.wrap (d8 + 1))
            else
              none
          else
            none
        else
        bif decide (x2.2.2.2.1 ≥ 0) then
          bif inb x2.2.2.2.1 d2.length then
            (nth d2 x2.2.2.2.1.toNat).bind fun (x9 : Int) =>
            bif (Nat.ble (d4.length + 1) most) && true then
              k52 rb d1 d2 d3 (d4 ++ [(x2.1, x2.2.1, x2.2.2.1, x9, x2.2.2.2.2)]) d5 d6 d7 (IntKind.i64.wrap (d8 + 1))
            else
              none
          else
            none
        else
        bif (Nat.ble (d4.length + 1) most) && true then
          k52 rb d1 d2 d3 (d4 ++ [x2]) d5 d6 d7 (IntKind.i64.wrap (d8 + 1))
        else
          none
      else
        none
    else
      none
  else
    some (d1, d2, d3, d5, d6, d4)
theorem eb52 (rf : T.RF) (rb : T.RB) (d1 : XT) (d2 : List Int) (d3 : List Int) (d4 : List XO) (d5 : List Int) (d6 : List Int) (d7 : Int) (d8 : Int) : T.stepB rf rb 52 (d1, d2, d3, d4, d5, d6, d7, d8) = b52 rf rb d1 d2 d3 d4 d5 d6 d7 d8 := by kernel_rfl
theorem ob52 {d1 : XT} {d2 : List Int} {d3 : List Int} {d4 : List XO} {d5 : List Int} {d6 : List Int} {d7 : Int} {d8 : Int} {y : (XT × List Int × List Int × List Int × List Int × List XO)} (h : b52 T.rf T.rb d1 d2 d3 d4 d5 d6 d7 d8 = some y) : k52 T.rb d1 d2 d3 d4 d5 d6 d7 d8 = some y := T.rb_of (κ := 52) (d := (d1, d2, d3, d4, d5, d6, d7, d8)) ((eb52 T.rf T.rb d1 d2 d3 d4 d5 d6 d7 d8).trans h)

/- sched.Sort loop 6 -/
noncomputable def b53q (rf : T.RF) (rb : T.RB) (d1 : List Int) (d2 : List XO) (d3 : List Int) (d4 : List Int) (d5 : List Int) (d6 : Int) (d7 : Int) : Option (List Int × XT) :=
  bif decide (d7 < d6) then
    bif inb d7 d5.length then
      (nth d5 d7.toNat).bind fun (x1 : Int) =>
      bif inb x1 d1.length then
        (nth d1 x1.toNat).bind fun (x2 : Int) =>
        agN 1 (
          bif (Nat.ble (d3.length + 1) most) && true then
            k53 rb d1 d2 (d3 ++ [x2]) d4 d5 d6 (IntKind.i64.wrap (d7 + 1))
          else
            none
        )
      else
        none
    else
      none
  else
    some (d1, d2, d4, d3)
noncomputable def b53 (rf : T.RF) (rb : T.RB) (d1 : List Int) (d2 : List XO) (d3 : List Int) (d4 : List Int) (d5 : List Int) (d6 : Int) (d7 : Int) : Option (List Int × XT) :=
  bif decide (d7 < d6) then
    bif inb d7 d5.length then
      (nth d5 d7.toNat).bind fun (x1 : Int) =>
      bif inb x1 d1.length then
        (nth d1 x1.toNat).bind fun (x2 : Int) =>
        bif (Nat.ble (d3.length + 1) most) && true then
          k53 rb d1 d2 (d3 ++ [x2]) d4 d5 d6 (IntKind.i64.wrap (d7 + 1))
        else
          none
      else
        none
    else
      none
  else
    some (d1, d2, d4, d3)
theorem eb53 (rf : T.RF) (rb : T.RB) (d1 : List Int) (d2 : List XO) (d3 : List Int) (d4 : List Int) (d5 : List Int) (d6 : Int) (d7 : Int) : T.stepB rf rb 53 (d1, d2, d3, d4, d5, d6, d7) = b53q rf rb d1 d2 d3 d4 d5 d6 d7 := by kernel_rfl
theorem sb53 (rf : T.RF) (rb : T.RB) (d1 : List Int) (d2 : List XO) (d3 : List Int) (d4 : List Int) (d5 : List Int) (d6 : Int) (d7 : Int) : b53q rf rb d1 d2 d3 d4 d5 d6 d7 = b53 rf rb d1 d2 d3 d4 d5 d6 d7 := by
  unfold b53q b53; simp only [agN_eq, agree_self, agree_swap]
theorem ob53 {d1 : List Int} {d2 : List XO} {d3 : List Int} {d4 : List Int} {d5 : List Int} {d6 : Int} {d7 : Int} {y : (List Int × XT)} (h : b53 T.rf T.rb d1 d2 d3 d4 d5 d6 d7 = some y) : k53 T.rb d1 d2 d3 d4 d5 d6 d7 = some y := T.rb_of (κ := 53) (d := (d1, d2, d3, d4, d5, d6, d7)) (((eb53 T.rf T.rb d1 d2 d3 d4 d5 d6 d7).trans (sb53 T.rf T.rb d1 d2 d3 d4 d5 d6 d7)).trans h)

/- sched.Sort -/
noncomputable def r5 (rf : T.RF) (rb : T.RB) (d1 : XT) : Option (XT × Int) :=
  (c6 rf d1).bind fun (y1 : List Int × Int) =>
  bif y1.2 != 0 then
    some (([], [], []), y1.2)
  else
  bif inb' (((y1.1.length : Nat) : Int)) most then
    bif inb' (((y1.1.length : Nat) : Int)) y1.1.length then
      (k51 rb (List.replicate y1.1.length (0 : Int)) y1.1 (((y1.1.length : Nat) : Int)) 0).bind fun (z2 : List Int × List Int) =>
      (c37 rf d1.2.2).bind fun (y3 : List Int) =>
      (k52 rb d1 z2.1 z2.2 [] [] y3 (((z2.2.length : Nat) : Int)) 0).bind fun (z4 : XT × List Int × List Int × List Int × List Int × List XO) =>
      (k53 rb z4.2.1 z4.2.2.2.2.2 z4.2.2.2.1 z4.2.2.2.2.1 z4.1.2.1 (((z4.1.2.1.length : Nat) : Int)) 0).bind fun (z5 : List Int × XT) =>
      some ((z5.2.1, z5.2.2.2, z5.2.2.1), 0)
    else
      none
  else
    none
theorem er5 (rf : T.RF) (rb : T.RB) (d1 : XT) : T.stepF rf rb 5 d1 = r5 rf rb d1 := by kernel_rfl
theorem or5 {d1 : XT} {y : (XT × Int)} (h : r5 T.rf T.rb d1 = some y) : c5 T.rf d1 = some y := T.rf_of (f := 5) (d := d1) ((er5 T.rf T.rb d1).trans h)

/- sched.Is$1 -/
noncomputable def r42 (rf : T.RF) (rb : T.RB) (d1 : Int) (d2 : Int) : Option (Int × Bool) :=
  some (d1, decide (d2 ≥ d1))
theorem er42 (rf : T.RF) (rb : T.RB) (d1 : Int) (d2 : Int) : T.stepF rf rb 42 (d1, d2) = r42 rf rb d1 d2 := by kernel_rfl
theorem or42 {d1 : Int} {d2 : Int} {y : (Int × Bool)} (h : r42 T.rf T.rb d1 d2 = some y) : c42 T.rf d1 d2 = some y := T.rf_of (f := 42) (d := (d1, d2)) ((er42 T.rf T.rb d1 d2).trans h)

/- slices.IndexFunc[[]int,int] loop 0 -/
noncomputable def b55 (rf : T.RF) (rb : T.RB) (d1 : Int) (d2 : List Int) (d3 : Int) (d4 : Int) : Option ((Int × Int) ⊕ Int) :=
  bif decide (d4 < d3) then
    bif inb d4 d2.length then
      (nth d2 d4.toNat).bind fun (x1 : Int) =>
      (c42 rf d1 x1).bind fun (y2 : Int × Bool) =>
      bif y2.2 then
        some (.inl (y2.1, d4))
      else
        k55 rb y2.1 d2 d3 (IntKind.i64.wrap (d4 + 1))
    else
      none
  else
    some (.inr d1)
theorem eb55 (rf : T.RF) (rb : T.RB) (d1 : Int) (d2 : List Int) (d3 : Int) (d4 : Int) : T.stepB rf rb 55 (d1, d2, d3, d4) = b55 rf rb d1 d2 d3 d4 := by kernel_rfl
theorem ob55 {d1 : Int} {d2 : List Int} {d3 : Int} {d4 : Int} {y : ((Int × Int) ⊕ Int)} (h : b55 T.rf T.rb d1 d2 d3 d4 = some y) : k55 T.rb d1 d2 d3 d4 = some y := T.rb_of (κ := 55) (d := (d1, d2, d3, d4)) ((eb55 T.rf T.rb d1 d2 d3 d4).trans h)

/- slices.IndexFunc[[]int,int] -/
noncomputable def r41 (rf : T.RF) (rb : T.RB) (d1 : Int) (d2 : List Int) : Option (Int × Int) :=
  (k55 rb d1 d2 (((d2.length : Nat) : Int)) 0).bind fun (z1 : (Int × Int) ⊕ Int) =>
  match z1 with
  | .inl u2 =>
    some u2
  | .inr w3 =>
    some (w3, (-1))
theorem er41 (rf : T.RF) (rb : T.RB) (d1 : Int) (d2 : List Int) : T.stepF rf rb 41 (d1, d2) = r41 rf rb d1 d2 := by kernel_rfl
theorem or41 {d1 : Int} {d2 : List Int} {y : (Int × Int)} (h : r41 T.rf T.rb d1 d2 = some y) : c41 T.rf d1 d2 = some y := T.rf_of (f := 41) (d := (d1, d2)) ((er41 T.rf T.rb d1 d2).trans h)

/- slices.ContainsFunc[[]int,int] -/
noncomputable def r40 (rf : T.RF) (rb : T.RB) (d1 : Int) (d2 : List Int) : Option (Int × Bool) :=
  (c41 rf d1 d2).bind fun (y1 : Int × Int) =>
  some (y1.1, decide (y1.2 ≥ 0))
theorem er40 (rf : T.RF) (rb : T.RB) (d1 : Int) (d2 : List Int) : T.stepF rf rb 40 (d1, d2) = r40 rf rb d1 d2 := by kernel_rfl
theorem or40 {d1 : Int} {d2 : List Int} {y : (Int × Bool)} (h : r40 T.rf T.rb d1 d2 = some y) : c40 T.rf d1 d2 = some y := T.rf_of (f := 40) (d := (d1, d2)) ((er40 T.rf T.rb d1 d2).trans h)

/- sched.Is loop 0 -/
noncomputable def b54 (rf : T.RF) (rb : T.RB) (d1 : List XO) (d2 : Int) (d3 : Int) : Option (Bool ⊕ Unit) :=
  bif decide (d3 < d2) then
    bif inb d3 d1.length then
      (nth d1 d3.toNat).bind fun (x1 : XO) =>
      (c24 rf x1).bind fun (y2 : List Int) =>
      (c40 rf d3 y2).bind fun (y3 : Int × Bool) =>
      bif y3.2 then
        some (.inl false)
      else
        k54 rb d1 d2 (IntKind.i64.wrap (d3 + 1))
    else
      none
  else
    some (.inr ())
theorem eb54 (rf : T.RF) (rb : T.RB) (d1 : List XO) (d2 : Int) (d3 : Int) : T.stepB rf rb 54 (d1, d2, d3) = b54 rf rb d1 d2 d3 := by kernel_rfl
theorem ob54 {d1 : List XO} {d2 : Int} {d3 : Int} {y : (Bool ⊕ Unit)} (h : b54 T.rf T.rb d1 d2 d3 = some y) : k54 T.rb d1 d2 d3 = some y := T.rb_of (κ := 54) (d := (d1, d2, d3)) ((eb54 T.rf T.rb d1 d2 d3).trans h)

/- sched.Is -/
noncomputable def r39 (rf : T.RF) (rb : T.RB) (d1 : XT) : Option Bool :=
  (c7 rf d1).bind fun (y1 : Int) =>
  bif y1 != 0 then
    some false
  else
    (k54 rb d1.1 (((d1.1.length : Nat) : Int)) 0).bind fun (z2 : Bool ⊕ Unit) =>
    match z2 with
    | .inl u3 =>
      some u3
    | .inr w4 =>
      some true
theorem er39 (rf : T.RF) (rb : T.RB) (d1 : XT) : T.stepF rf rb 39 d1 = r39 rf rb d1 := by kernel_rfl
theorem or39 {d1 : XT} {y : Bool} (h : r39 T.rf T.rb d1 = some y) : c39 T.rf d1 = some y := T.rf_of (f := 39) (d := d1) ((er39 T.rf T.rb d1).trans h)

/- math/bits.Mul64 -/
noncomputable def r45 (rf : T.RF) (rb : T.RB) (d1 : Int) (d2 : Int) : Option (Int × Int) :=
  some (IntKind.u64.wrap ((IntKind.u64.wrap ((IntKind.u64.wrap ((shrI IntKind.u64 d1 32) * (shrI IntKind.u64 d2 32))) + (shrI IntKind.u64 (IntKind.u64.wrap ((IntKind.u64.wrap ((shrI IntKind.u64 d1 32) * (andI IntKind.u64 d2 4294967295))) + (shrI IntKind.u64 (IntKind.u64.wrap ((andI IntKind.u64 d1 4294967295) * (andI IntKind.u64 d2 4294967295))) 32))) 32))) + (shrI IntKind.u64 (IntKind.u64.wrap ((andI IntKind.u64 (IntKind.u64.wrap ((IntKind.u64.wrap ((shrI IntKind.u64 d1 32) * (andI IntKind.u64 d2 4294967295))) + (shrI IntKind.u64 (IntKind.u64.wrap ((andI IntKind.u64 d1 4294967295) * (andI IntKind.u64 d2 4294967295))) 32))) 4294967295) + (IntKind.u64.wrap ((andI IntKind.u64 d1 4294967295) * (shrI IntKind.u64 d2 32))))) 32)), IntKind.u64.wrap (d1 * d2))
theorem er45 (rf : T.RF) (rb : T.RB) (d1 : Int) (d2 : Int) : T.stepF rf rb 45 (d1, d2) = r45 rf rb d1 d2 := by kernel_rfl
theorem or45 {d1 : Int} {d2 : Int} {y : (Int × Int)} (h : r45 T.rf T.rb d1 d2 = some y) : c45 T.rf d1 d2 = some y := T.rf_of (f := 45) (d := (d1, d2)) ((er45 T.rf T.rb d1 d2).trans h)

/- math/bits.Mul -/
noncomputable def r44 (rf : T.RF) (rb : T.RB) (d1 : Int) (d2 : Int) : Option (Int × Int) :=
  (c45 rf d1 d2).bind fun (y1 : Int × Int) =>
  some y1
theorem er44 (rf : T.RF) (rb : T.RB) (d1 : Int) (d2 : Int) : T.stepF rf rb 44 (d1, d2) = r44 rf rb d1 d2 := by kernel_rfl
theorem or44 {d1 : Int} {d2 : Int} {y : (Int × Int)} (h : r44 T.rf T.rb d1 d2 = some y) : c44 T.rf d1 d2 = some y := T.rf_of (f := 44) (d := (d1, d2)) ((er44 T.rf T.rb d1 d2).trans h)

/- slices.Repeat[[]int,int] tail 3 -/
noncomputable def b58 (rf : T.RF) (rb : T.RB) (d1 : List Int) (d2 : Int) : Option (List Int) :=
  (c44 rf (IntKind.u64.wrap (((d1.length : Nat) : Int))) (IntKind.u64.wrap d2)).bind fun (y1 : Int × Int) =>
  bif decide (y1.1 > 0) then
    none
  else
  bif decide (y1.2 > 9223372036854775807) then
    none
  else
  bif inb' (IntKind.i64.wrap y1.2) most then
    bif inb' (IntKind.i64.wrap y1.2) (IntKind.i64.wrap y1.2).toNat then
      bif Nat.ble (0 + (List.take (List.replicate (IntKind.i64.wrap y1.2).toNat (0 : Int)).length d1).length) (List.replicate (IntKind.i64.wrap y1.2).toNat (0 : Int)).length then
        (k59 rb (((List.take 0 (List.replicate (IntKind.i64.wrap y1.2).toNat (0 : Int))) ++ (List.take (List.replicate (IntKind.i64.wrap y1.2).toNat (0 : Int)).length d1)) ++ (List.drop (0 + (List.take (List.replicate (IntKind.i64.wrap y1.2).toNat (0 : Int)).length d1).length) (List.replicate (IntKind.i64.wrap y1.2).toNat (0 : Int)))) ((((min d1.length (List.replicate (IntKind.i64.wrap y1.2).toNat (0 : Int)).length) : Nat) : Int))).bind fun (z2 : List Int) =>
        some z2
      else
        none
    else
      none
  else
    none
theorem eb58 (rf : T.RF) (rb : T.RB) (d1 : List Int) (d2 : Int) : T.stepB rf rb 58 (d1, d2) = b58 rf rb d1 d2 := by kernel_rfl
theorem ob58 {d1 : List Int} {d2 : Int} {y : (List Int)} (h : b58 T.rf T.rb d1 d2 = some y) : k58 T.rb d1 d2 = some y := T.rb_of (κ := 58) (d := (d1, d2)) ((eb58 T.rf T.rb d1 d2).trans h)

/- slices.Repeat[[]int,int] loop 0 -/
noncomputable def b59 (rf : T.RF) (rb : T.RB) (d1 : List Int) (d2 : Int) : Option (List Int) :=
  bif decide (d2 < (((d1.length : Nat) : Int))) then
    bif inb' d2 d1.length then
      bif inb' d2 d1.length then
        bif Nat.ble (d2.toNat + (List.take (d1.length - d2.toNat) (sub d1 (some (0, (d2.toNat - 0))))).length) d1.length then
          k59 rb (((List.take d2.toNat d1) ++ (List.take (d1.length - d2.toNat) (sub d1 (some (0, (d2.toNat - 0)))))) ++ (List.drop (d2.toNat + (List.take (d1.length - d2.toNat) (sub d1 (some (0, (d2.toNat - 0))))).length) d1)) (IntKind.i64.wrap (d2 + ((((min (sub d1 (some (0, (d2.toNat - 0)))).length (d1.length - d2.toNat)) : Nat) : Int))))
        else
          none
      else
        none
    else
      none
  else
    some d1
theorem eb59 (rf : T.RF) (rb : T.RB) (d1 : List Int) (d2 : Int) : T.stepB rf rb 59 (d1, d2) = b59 rf rb d1 d2 := by kernel_rfl
theorem ob59 {d1 : List Int} {d2 : Int} {y : (List Int)} (h : b59 T.rf T.rb d1 d2 = some y) : k59 T.rb d1 d2 = some y := T.rb_of (κ := 59) (d := (d1, d2)) ((eb59 T.rf T.rb d1 d2).trans h)

/- slices.Repeat[[]int,int] -/
noncomputable def r43 (rf : T.RF) (rb : T.RB) (d1 : List Int) (d2 : Int) : Option (List Int) :=
  bif decide (d2 < 0) then
    none
  else
    (k58 rb d1 d2).bind fun (z1 : List Int) =>
    some z1
theorem er43 (rf : T.RF) (rb : T.RB) (d1 : List Int) (d2 : Int) : T.stepF rf rb 43 (d1, d2) = r43 rf rb d1 d2 := by kernel_rfl
theorem or43 {d1 : List Int} {d2 : Int} {y : (List Int)} (h : r43 T.rf T.rb d1 d2 = some y) : c43 T.rf d1 d2 = some y := T.rf_of (f := 43) (d := (d1, d2)) ((er43 T.rf T.rb d1 d2).trans h)

/- sched.Ends loop 0 -/
noncomputable def b60 (rf : T.RF) (rb : T.RB) (d1 : List Int) (d2 : List XO) (d3 : Int) (d4 : Int) : Option (List Int) :=
  bif decide (d4 < d3) then
    bif inb d4 d2.length then
      (nth d2 d4.toNat).bind fun (x1 : XO) =>
      (c24 rf x1).bind fun (y2 : List Int) =>
      (k61 rb d1 y2 d4 (((y2.length : Nat) : Int)) 0).bind fun (z3 : List Int × List Int) =>
      k60 rb z3.1 d2 d3 (IntKind.i64.wrap (d4 + 1))
    else
      none
  else
    some d1
theorem eb60 (rf : T.RF) (rb : T.RB) (d1 : List Int) (d2 : List XO) (d3 : Int) (d4 : Int) : T.stepB rf rb 60 (d1, d2, d3, d4) = b60 rf rb d1 d2 d3 d4 := by kernel_rfl
theorem ob60 {d1 : List Int} {d2 : List XO} {d3 : Int} {d4 : Int} {y : (List Int)} (h : b60 T.rf T.rb d1 d2 d3 d4 = some y) : k60 T.rb d1 d2 d3 d4 = some y := T.rb_of (κ := 60) (d := (d1, d2, d3, d4)) ((eb60 T.rf T.rb d1 d2 d3 d4).trans h)

/- sched.Ends loop 2 -/
noncomputable def b61 (rf : T.RF) (rb : T.RB) (d1 : List Int) (d2 : List Int) (d3 : Int) (d4 : Int) (d5 : Int) : Option (List Int × List Int) :=
  bif decide (d5 < d4) then
    bif inb d5 d2.length then
      (nth d2 d5.toNat).bind fun (x1 : Int) =>
      bif inb x1 d1.length then
        bif Nat.blt x1.toNat d1.length then
          k61 rb (setNth d1 x1.toNat d3) d2 d3 d4 (IntKind.i64.wrap (d5 + 1))
        else
          none
      else
        none
    else
      none
  else
    some (d1, d2)
theorem eb61 (rf : T.RF) (rb : T.RB) (d1 : List Int) (d2 : List Int) (d3 : Int) (d4 : Int) (d5 : Int) : T.stepB rf rb 61 (d1, d2, d3, d4, d5) = b61 rf rb d1 d2 d3 d4 d5 := by kernel_rfl
theorem ob61 {d1 : List Int} {d2 : List Int} {d3 : Int} {d4 : Int} {d5 : Int} {y : (List Int × List Int)} (h : b61 T.rf T.rb d1 d2 d3 d4 d5 = some y) : k61 T.rb d1 d2 d3 d4 d5 = some y := T.rb_of (κ := 61) (d := (d1, d2, d3, d4, d5)) ((eb61 T.rf T.rb d1 d2 d3 d4 d5).trans h)

/- sched.Ends -/
noncomputable def r38 (rf : T.RF) (rb : T.RB) (d1 : XT) : Option (List Int) :=
  (c39 rf d1).bind fun (y1 : Bool) =>
  bif !y1 then
    some []
  else
    (c43 rf [(-1)] (((d1.1.length : Nat) : Int))).bind fun (y2 : List Int) =>
    (k60 rb y2 d1.1 (((d1.1.length : Nat) : Int)) 0).bind fun (z3 : List Int) =>
    some z3
theorem er38 (rf : T.RF) (rb : T.RB) (d1 : XT) : T.stepF rf rb 38 d1 = r38 rf rb d1 := by kernel_rfl
theorem or38 {d1 : XT} {y : (List Int)} (h : r38 T.rf T.rb d1 = some y) : c38 T.rf d1 = some y := T.rf_of (f := 38) (d := d1) ((er38 T.rf T.rb d1).trans h)

/- code.Make$1 -/
noncomputable def r46 (rf : T.RF) (rb : T.RB) (d1 : XT) (d2 : List Int) (d3 : Int) : Option (XT × List Int) :=
  bif inb d3 d2.length then
    bif Nat.blt d3.toNat d2.length then
      some (d1, setNth d2 d3.toNat (((d1.1.length : Nat) : Int)))
    else
      none
  else
    none
theorem er46 (rf : T.RF) (rb : T.RB) (d1 : XT) (d2 : List Int) (d3 : Int) : T.stepF rf rb 46 (d1, d2, d3) = r46 rf rb d1 d2 d3 := by kernel_rfl
theorem or46 {d1 : XT} {d2 : List Int} {d3 : Int} {y : (XT × List Int)} (h : r46 T.rf T.rb d1 d2 d3 = some y) : c46 T.rf d1 d2 d3 = some y := T.rf_of (f := 46) (d := (d1, d2, d3)) ((er46 T.rf T.rb d1 d2 d3).trans h)

/- (*bailment/code.maker).take -/
noncomputable def r47 (rf : T.RF) (rb : T.RB) (d1 : Int) (d2 : Int) (d3 : List XI) (d4 : List Int) (d5 : List Int) (d6 : List Int) (d7 : List (Int × Int)) : Option ((Int × Int × List XI × List Int × List Int × List (Int × Int) × List Int × Int) ⊕ (Int × Int × List XI × List Int × List Int × List Int × List (Int × Int) × Int)) :=
  bif decide ((IntKind.i64.wrap ((((d6.length : Nat) : Int)) - 1)) ≥ 0) then
    bif inb (IntKind.i64.wrap ((((d6.length : Nat) : Int)) - 1)) d6.length then
      (nth d6 (IntKind.i64.wrap ((((d6.length : Nat) : Int)) - 1)).toNat).bind fun (x1 : Int) =>
      bif inb' (IntKind.i64.wrap ((((d6.length : Nat) : Int)) - 1)) d6.length then
        some (.inl (d1, d2, d3, d4, d5, d7, sub d6 (some (0, ((IntKind.i64.wrap ((((d6.length : Nat) : Int)) - 1)).toNat - 0))), x1))
      else
        none
    else
      none
  else
    some (.inr (IntKind.i64.wrap (d1 + 1), d2, d3, d4, d5, d6, d7, IntKind.i64.wrap ((IntKind.i64.wrap (d1 + 1)) - 1)))
theorem er47 (rf : T.RF) (rb : T.RB) (d1 : Int) (d2 : Int) (d3 : List XI) (d4 : List Int) (d5 : List Int) (d6 : List Int) (d7 : List (Int × Int)) : T.stepF rf rb 47 (d1, d2, d3, d4, d5, d6, d7) = r47 rf rb d1 d2 d3 d4 d5 d6 d7 := by kernel_rfl
theorem or47 {d1 : Int} {d2 : Int} {d3 : List XI} {d4 : List Int} {d5 : List Int} {d6 : List Int} {d7 : List (Int × Int)} {y : ((Int × Int × List XI × List Int × List Int × List (Int × Int) × List Int × Int) ⊕ (Int × Int × List XI × List Int × List Int × List Int × List (Int × Int) × Int))} (h : r47 T.rf T.rb d1 d2 d3 d4 d5 d6 d7 = some y) : c47 T.rf d1 d2 d3 d4 d5 d6 d7 = some y := T.rf_of (f := 47) (d := (d1, d2, d3, d4, d5, d6, d7)) ((er47 T.rf T.rb d1 d2 d3 d4 d5 d6 d7).trans h)

/- code.reads -/
noncomputable def r48 (rf : T.RF) (rb : T.RB) (d1 : Int) : Option Int :=
  bif d1 == 3 then
    bif d1 == 3 then
      some 0
    else
    bif d1 == 30 then
      some 1
    else
    bif d1 == 19 then
      some 2
    else
      (c14 rf d1).bind fun (y1 : Int) =>
      some y1
  else
  bif d1 == 1 then
    bif d1 == 1 then
      some 0
    else
    bif d1 == 30 then
      some 1
    else
    bif d1 == 19 then
      some 2
    else
      (c14 rf d1).bind fun (y2 : Int) =>
      some y2
  else
  bif d1 == 2 then
    bif d1 == 2 then
      some 0
    else
    bif d1 == 30 then
      some 1
    else
    bif d1 == 19 then
      some 2
    else
      (c14 rf d1).bind fun (y3 : Int) =>
      some y3
  else
  bif d1 == 21 then
    some 0
  else
  bif d1 == 30 then
    some 1
  else
  bif d1 == 19 then
    some 2
  else
    (c14 rf d1).bind fun (y4 : Int) =>
    some y4
theorem er48 (rf : T.RF) (rb : T.RB) (d1 : Int) : T.stepF rf rb 48 d1 = r48 rf rb d1 := by kernel_rfl
theorem or48 {d1 : Int} {y : Int} (h : r48 T.rf T.rb d1 = some y) : c48 T.rf d1 = some y := T.rf_of (f := 48) (d := d1) ((er48 T.rf T.rb d1).trans h)

/- code.Make loop 0 -/
noncomputable def b194 (rf : T.RF) (rb : T.RB) (d1 : XT) (d2 : Int) (d3 : Int) (d4 : List Int) (d5 : List XI) (d6 : List Int) (d7 : List Int) (d8 : List Int) (d9 : Int) (d10 : Int) : Option ((XT × Int × Int × List Int × List XI × List Int × List Int × List XI × List Int × Int) ⊕ (XT × Int × Int × List Int × List XI × List Int × List Int)) :=
  bif decide (d10 < d9) then
    bif inb d10 d8.length then
      (nth d8 d10.toNat).bind fun (x1 : Int) =>
      bif decide (x1 < 0) then
        some (.inl (d1, 0, 0, [], d5, d6, d7, [], [], 1))
      else
      bif decide (x1 ≥ (((d1.2.1.length : Nat) : Int))) then
        some (.inl (d1, 0, 0, [], d5, d6, d7, [], [], 1))
      else
      bif inb x1 d1.2.1.length then
        (nth d1.2.1 x1.toNat).bind fun (x2 : Int) =>
        (c46 rf d1 d7 x2).bind fun (y3 : XT × List Int) =>
        k194 rb y3.1 d2 d3 d4 d5 d6 y3.2 d8 d9 (IntKind.i64.wrap (d10 + 1))
      else
        none
    else
      none
  else
    some (.inr (d1, d2, d3, d4, d5, d6, d7))
theorem eb194 (rf : T.RF) (rb : T.RB) (d1 : XT) (d2 : Int) (d3 : Int) (d4 : List Int) (d5 : List XI) (d6 : List Int) (d7 : List Int) (d8 : List Int) (d9 : Int) (d10 : Int) : T.stepB rf rb 194 (d1, d2, d3, d4, d5, d6, d7, d8, d9, d10) = b194 rf rb d1 d2 d3 d4 d5 d6 d7 d8 d9 d10 := by kernel_rfl
theorem ob194 {d1 : XT} {d2 : Int} {d3 : Int} {d4 : List Int} {d5 : List XI} {d6 : List Int} {d7 : List Int} {d8 : List Int} {d9 : Int} {d10 : Int} {y : ((XT × Int × Int × List Int × List XI × List Int × List Int × List XI × List Int × Int) ⊕ (XT × Int × Int × List Int × List XI × List Int × List Int))} (h : b194 T.rf T.rb d1 d2 d3 d4 d5 d6 d7 d8 d9 d10 = some y) : k194 T.rb d1 d2 d3 d4 d5 d6 d7 d8 d9 d10 = some y := T.rb_of (κ := 194) (d := (d1, d2, d3, d4, d5, d6, d7, d8, d9, d10)) ((eb194 T.rf T.rb d1 d2 d3 d4 d5 d6 d7 d8 d9 d10).trans h)

/- code.Make loop 2 -/
noncomputable def b195 (rf : T.RF) (rb : T.RB) (d1 : XT) (d2 : List (Int × Int)) (d3 : List Int) (d4 : List XO) (d5 : Int) (d6 : Int) : Option (XT × List (Int × Int) × List Int) :=
  bif decide (d6 < d5) then
    bif inb d6 d4.length then
      (nth d4 d6.toNat).bind fun (x1 : XO) =>
      bif x1.1 != 21 then
        k195 rb d1 d2 d3 d4 d5 (IntKind.i64.wrap (d6 + 1))
      else
      bif !(assocHas (CT.eqK (.int .i64)) d2 x1.2.1) then
        (c46 rf d1 d3 x1.2.1).bind fun (y2 : XT × List Int) =>
        k195 rb y2.1 (assocSet (CT.eqK (.int .i64)) d2 x1.2.1 (((d2.length : Nat) : Int))) y2.2 d4 d5 (IntKind.i64.wrap (d6 + 1))
      else
        k195 rb d1 d2 d3 d4 d5 (IntKind.i64.wrap (d6 + 1))
    else
      none
  else
    some (d1, d2, d3)
theorem eb195 (rf : T.RF) (rb : T.RB) (d1 : XT) (d2 : List (Int × Int)) (d3 : List Int) (d4 : List XO) (d5 : Int) (d6 : Int) : T.stepB rf rb 195 (d1, d2, d3, d4, d5, d6) = b195 rf rb d1 d2 d3 d4 d5 d6 := by kernel_rfl
theorem ob195 {d1 : XT} {d2 : List (Int × Int)} {d3 : List Int} {d4 : List XO} {d5 : Int} {d6 : Int} {y : (XT × List (Int × Int) × List Int)} (h : b195 T.rf T.rb d1 d2 d3 d4 d5 d6 = some y) : k195 T.rb d1 d2 d3 d4 d5 d6 = some y := T.rb_of (κ := 195) (d := (d1, d2, d3, d4, d5, d6)) ((eb195 T.rf T.rb d1 d2 d3 d4 d5 d6).trans h)

/- code.Make loop 4 -/
noncomputable def b196q (rf : T.RF) (rb : T.RB) (d1 : List (Int × Int)) (d2 : Int) (d3 : Int) (d4 : List Int) (d5 : List XI) (d6 : List Int) (d7 : List Int) (d8 : List Int) (d9 : List (Int × Int)) (d10 : List XO) (d11 : Int) (d12 : Int) : Option (List (Int × Int) × Int × Int × List Int × List Int × List Int × List (Int × Int) × List XI × List Int) :=
  bif decide (d12 < d11) then
    bif inb d12 d10.length then
      (nth d10 d12.toNat).bind fun (x1 : XO) =>
      bif x1.1 == 21 then
        (k197 rb d2 d3 (x1.1, 0, 0, 0, 0, assocGet (CT.eqK (.int .i64)) 0 d1 x1.2.1) d4 d5 d6 d7 d8 d9 d12).bind fun (z2 : (Int × Int × XI × List Int × List Int × List Int × List (Int × Int) × List XI × List Int) ⊕ (Int × Int × XI × List Int × List Int × List Int × List Int × List (Int × Int) × List XI)) =>
        match z2 with
        | .inl u3 =>
          k196 rb d1 u3.1 u3.2.1 u3.2.2.2.1 u3.2.2.2.2.2.2.2.1 u3.2.2.2.2.1 u3.2.2.2.2.2.1 u3.2.2.2.2.2.2.2.2 u3.2.2.2.2.2.2.1 d10 d11 (IntKind.i64.wrap (d12 + 1))
        | .inr w4 =>
          k196 rb d1 w4.1 w4.2.1 w4.2.2.2.1 w4.2.2.2.2.2.2.2.2 w4.2.2.2.2.1 w4.2.2.2.2.2.1 w4.2.2.2.2.2.2.1 w4.2.2.2.2.2.2.2.1 d10 d11 (IntKind.i64.wrap (d12 + 1))
      else
        agN 1 (
          (c48 rf x1.1).bind fun (y5 : Int) =>
          bif inb' (if 0 > y5 then 0 else y5) 3 then
            (k198 rb d2 d3 (sub [x1.2.1, x1.2.2.1, x1.2.2.2.1] (some (0, ((if 0 > y5 then 0 else y5).toNat - 0)))) d4 d5 d6 d7 d8 d9 (x1.1, 0, 0, 0, 0, x1.2.2.2.2) d12).bind fun (z6 : Int × Int × List Int × List Int × List XI × List Int × List Int × List (Int × Int) × XI × List Int) =>
            (k197 rb z6.1 z6.2.1 z6.2.2.2.2.2.2.2.2.1 z6.2.2.2.1 z6.2.2.2.2.1 z6.2.2.2.2.2.1 z6.2.2.2.2.2.2.1 z6.2.2.2.2.2.2.2.2.2 z6.2.2.2.2.2.2.2.1 d12).bind fun (z7 : (Int × Int × XI × List Int × List Int × List Int × List (Int × Int) × List XI × List Int) ⊕ (Int × Int × XI × List Int × List Int × List Int × List Int × List (Int × Int) × List XI)) =>
            match z7 with
            | .inl u8 =>
              k196 rb d1 u8.1 u8.2.1 u8.2.2.2.1 u8.2.2.2.2.2.2.2.1 u8.2.2.2.2.1 u8.2.2.2.2.2.1 u8.2.2.2.2.2.2.2.2 u8.2.2.2.2.2.2.1 d10 d11 (IntKind.i64.wrap (d12 + 1))
            | .inr w9 =>
              k196 rb d1 w9.1 w9.2.1 w9.2.2.2.1 w9.2.2.2.2.2.2.2.2 w9.2.2.2.2.1 w9.2.2.2.2.2.1 w9.2.2.2.2.2.2.1 w9.2.2.2.2.2.2.2.1 d10 d11 (IntKind.i64.wrap (d12 + 1))
          else
            none
        )
    else
      none
  else
    some (d1, d2, d3, d4, d6, d7, d9, d5, d8)
noncomputable def b196 (rf : T.RF) (rb : T.RB) (d1 : List (Int × Int)) (d2 : Int) (d3 : Int) (d4 : List Int) (d5 : List XI) (d6 : List Int) (d7 : List Int) (d8 : List Int) (d9 : List (Int × Int)) (d10 : List XO) (d11 : Int) (d12 : Int) : Option (List (Int × Int) × Int × Int × List Int × List Int × List Int × List (Int × Int) × List XI × List Int) :=
  bif decide (d12 < d11) then
    bif inb d12 d10.length then
      (nth d10 d12.toNat).bind fun (x1 : XO) =>
      bif x1.1 == 21 then
        (k197 rb d2 d3 (x1.1, 0, 0, 0, 0, assocGet (CT.eqK (.int .i64)) 0 d1 x1.2.1) d4 d5 d6 d7 d8 d9 d12).bind fun (z2 : (Int × Int × XI × List Int × List Int × List Int × List (Int × Int) × List XI × List Int) ⊕ (Int × Int × XI × List Int × List Int × List Int × List Int × List (Int × Int) × List XI)) =>
        match z2 with
        | .inl u3 =>
          k196 rb d1 u3.1 u3.2.1 u3.2.2.2.1 u3.2.2.2.2.2.2.2.1 u3.2.2.2.2.1 u3.2.2.2.2.2.1 u3.2.2.2.2.2.2.2.2 u3.2.2.2.2.2.2.1 d10 d11 (IntKind.i64.wrap (d12 + 1))
        | .inr w4 =>
          k196 rb d1 w4.1 w4.2.1 w4.2.2.2.1 w4.2.2.2.2.2.2.2.2 w4.2.2.2.2.1 w4.2.2.2.2.2.1 w4.2.2.2.2.2.2.1 w4.2.2.2.2.2.2.2.1 d10 d11 (IntKind.i64.wrap (d12 + 1))
      else
        (c48 rf x1.1).bind fun (y5 : Int) =>
        bif inb' (if 0 > y5 then 0 else y5) 3 then
          (k198 rb d2 d3 (sub [x1.2.1, x1.2.2.1, x1.2.2.2.1] (some (0, ((if 0 > y5 then 0 else y5).toNat - 0)))) d4 d5 d6 d7 d8 d9 (x1.1, 0, 0, 0, 0, x1.2.2.2.2) d12).bind fun (z6 : Int × Int × List Int × List Int × List XI × List Int × List Int × List (Int × Int) × XI × List Int) =>
          (k197 rb z6.1 z6.2.1 z6.2.2.2.2.2.2.2.2.1 z6.2.2.2.1 z6.2.2.2.2.1 z6.2.2.2.2.2.1 z6.2.2.2.2.2.2.1 z6.2.2.2.2.2.2.2.2.2 z6.2.2.2.2.2.2.2.1 d12).bind fun (z7 : (Int × Int × XI × List Int × List Int × List Int × List (Int × Int) × List XI × List Int) ⊕ (Int × Int × XI × List Int × List Int × List Int × List Int × List (Int × Int) × List XI)) =>
          match z7 with
          | .inl u8 =>
            k196 rb d1 u8.1 u8.2.1 u8.2.2.2.1 u8.2.2.2.2.2.2.2.1 u8.2.2.2.2.1 u8.2.2.2.2.2.1 u8.2.2.2.2.2.2.2.2 u8.2.2.2.2.2.2.1 d10 d11 (IntKind.i64.wrap (d12 + 1))
          | .inr w9 =>
            k196 rb d1 w9.1 w9.2.1 w9.2.2.2.1 w9.2.2.2.2.2.2.2.2 w9.2.2.2.2.1 w9.2.2.2.2.2.1 w9.2.2.2.2.2.2.1 w9.2.2.2.2.2.2.2.1 d10 d11 (IntKind.i64.wrap (d12 + 1))
        else
          none
    else
      none
  else
    some (d1, d2, d3, d4, d6, d7, d9, d5, d8)
theorem eb196 (rf : T.RF) (rb : T.RB) (d1 : List (Int × Int)) (d2 : Int) (d3 : Int) (d4 : List Int) (d5 : List XI) (d6 : List Int) (d7 : List Int) (d8 : List Int) (d9 : List (Int × Int)) (d10 : List XO) (d11 : Int) (d12 : Int) : T.stepB rf rb 196 (d1, d2, d3, d4, d5, d6, d7, d8, d9, d10, d11, d12) = b196q rf rb d1 d2 d3 d4 d5 d6 d7 d8 d9 d10 d11 d12 := by kernel_rfl
theorem sb196 (rf : T.RF) (rb : T.RB) (d1 : List (Int × Int)) (d2 : Int) (d3 : Int) (d4 : List Int) (d5 : List XI) (d6 : List Int) (d7 : List Int) (d8 : List Int) (d9 : List (Int × Int)) (d10 : List XO) (d11 : Int) (d12 : Int) : b196q rf rb d1 d2 d3 d4 d5 d6 d7 d8 d9 d10 d11 d12 = b196 rf rb d1 d2 d3 d4 d5 d6 d7 d8 d9 d10 d11 d12 := by
  unfold b196q b196; simp only [agN_eq, agree_self, agree_swap]
theorem ob196 {d1 : List (Int × Int)} {d2 : Int} {d3 : Int} {d4 : List Int} {d5 : List XI} {d6 : List Int} {d7 : List Int} {d8 : List Int} {d9 : List (Int × Int)} {d10 : List XO} {d11 : Int} {d12 : Int} {y : (List (Int × Int) × Int × Int × List Int × List Int × List Int × List (Int × Int) × List XI × List Int)} (h : b196 T.rf T.rb d1 d2 d3 d4 d5 d6 d7 d8 d9 d10 d11 d12 = some y) : k196 T.rb d1 d2 d3 d4 d5 d6 d7 d8 d9 d10 d11 d12 = some y := T.rb_of (κ := 196) (d := (d1, d2, d3, d4, d5, d6, d7, d8, d9, d10, d11, d12)) (((eb196 T.rf T.rb d1 d2 d3 d4 d5 d6 d7 d8 d9 d10 d11 d12).trans (sb196 T.rf T.rb d1 d2 d3 d4 d5 d6 d7 d8 d9 d10 d11 d12)).trans h)

/- code.Make tail 46 -/
noncomputable def b197q (rf : T.RF) (rb : T.RB) (d1 : Int) (d2 : Int) (d3 : XI) (d4 : List Int) (d5 : List XI) (d6 : List Int) (d7 : List Int) (d8 : List Int) (d9 : List (Int × Int)) (d10 : Int) : Option ((Int × Int × XI × List Int × List Int × List Int × List (Int × Int) × List XI × List Int) ⊕ (Int × Int × XI × List Int × List Int × List Int × List Int × List (Int × Int) × List XI)) :=
  (c47 rf d1 d2 d5 d6 d7 d8 d9).bind fun (y1 : (Int × Int × List XI × List Int × List Int × List (Int × Int) × List Int × Int) ⊕ (Int × Int × List XI × List Int × List Int × List Int × List (Int × Int) × Int)) =>
  match y1 with
  | .inl u2 =>
    bif inb d10 d4.length then
      (nth d4 d10.toNat).bind fun (x4 : Int) =>
      bif decide (x4 < 0) then
        agN 1 (
          bif (Nat.ble (u2.2.2.2.2.2.2.1.length + 1) most) && true then
            agN 1 (
              bif (Nat.ble (u2.2.2.1.length + 1) most) && true then
                some (.inl (u2.1, u2.2.1, (d3.1, u2.2.2.2.2.2.2.2, d3.2.2), d4, u2.2.2.2.1, u2.2.2.2.2.1, u2.2.2.2.2.2.1, u2.2.2.1 ++ [(d3.1, u2.2.2.2.2.2.2.2, d3.2.2)], u2.2.2.2.2.2.2.1 ++ [u2.2.2.2.2.2.2.2]))
              else
                none
            )
          else
            none
        )
      else
        agN 1 (
          bif (Nat.ble (u2.2.2.1.length + 1) most) && true then
            some (.inl (u2.1, u2.2.1, (d3.1, u2.2.2.2.2.2.2.2, d3.2.2), d4, u2.2.2.2.1, u2.2.2.2.2.1, assocSet (CT.eqK (.int .i64)) u2.2.2.2.2.2.1 d10 u2.2.2.2.2.2.2.2, u2.2.2.1 ++ [(d3.1, u2.2.2.2.2.2.2.2, d3.2.2)], u2.2.2.2.2.2.2.1))
          else
            none
        )
    else
      none
  | .inr w3 =>
    bif inb d10 d4.length then
      (nth d4 d10.toNat).bind fun (x5 : Int) =>
      bif decide (x5 < 0) then
        agN 1 (
          bif (Nat.ble (w3.2.2.2.2.2.1.length + 1) most) && true then
            agN 1 (
              bif (Nat.ble (w3.2.2.1.length + 1) most) && true then
                some (.inl (w3.1, w3.2.1, (d3.1, w3.2.2.2.2.2.2.2, d3.2.2), d4, w3.2.2.2.1, w3.2.2.2.2.1, w3.2.2.2.2.2.2.1, w3.2.2.1 ++ [(d3.1, w3.2.2.2.2.2.2.2, d3.2.2)], w3.2.2.2.2.2.1 ++ [w3.2.2.2.2.2.2.2]))
              else
                none
            )
          else
            none
        )
      else
        agN 1 (
          bif (Nat.ble (w3.2.2.1.length + 1) most) && true then
            some (.inr (w3.1, w3.2.1, (d3.1, w3.2.2.2.2.2.2.2, d3.2.2), d4, w3.2.2.2.1, w3.2.2.2.2.1, w3.2.2.2.2.2.1, assocSet (CT.eqK (.int .i64)) w3.2.2.2.2.2.2.1 d10 w3.2.2.2.2.2.2.2, w3.2.2.1 ++ [(d3.1, w3.2.2.2.2.2.2.2, d3.2.2)]))
          else
            none
        )
    else
      none
noncomputable def b197 (rf : T.RF) (rb : T.RB) (d1 : Int) (d2 : Int) (d3 : XI) (d4 : List Int) (d5 : List XI) (d6 : List Int) (d7 : List Int) (d8 : List Int) (d9 : List (Int × Int)) (d10 : Int) : Option ((Int × Int × XI × List Int × List Int × List Int × List (Int × Int) × List XI × List Int) ⊕ (Int × Int × XI × List Int × List Int × List Int × List Int × List (Int × Int) × List XI)) :=
  (c47 rf d1 d2 d5 d6 d7 d8 d9).bind fun (y1 : (Int × Int × List XI × List Int × List Int × List (Int × Int) × List Int × Int) ⊕ (Int × Int × List XI × List Int × List Int × List Int × List (Int × Int) × Int)) =>
  match y1 with
  | .inl u2 =>
    bif inb d10 d4.length then
      (nth d4 d10.toNat).bind fun (x4 : Int) =>
      bif decide (x4 < 0) then
        bif (Nat.ble (u2.2.2.2.2.2.2.1.length + 1) most) && true then
          bif (Nat.ble (u2.2.2.1.length + 1) most) && true then
            some (.inl (u2.1, u2.2.1, (d3.1, u2.2.2.2.2.2.2.2, d3.2.2), d4, u2.2.2.2.1, u2.2.2.2.2.1, u2.2.2.2.2.2.1, u2.2.2.1 ++ [(d3.1, u2.2.2.2.2.2.2.2, d3.2.2)], u2.2.2.2.2.2.2.1 ++ [u2.2.2.2.2.2.2.2]))
          else
            none
        else
          none
      else
      bif (Nat.ble (u2.2.2.1.length + 1) most) && true then
        some (.inl (u2.1, u2.2.1, (d3.1, u2.2.2.2.2.2.2.2, d3.2.2), d4, u2.2.2.2.1, u2.2.2.2.2.1, assocSet (CT.eqK (.int .i64)) u2.2.2.2.2.2.1 d10 u2.2.2.2.2.2.2.2, u2.2.2.1 ++ [(d3.1, u2.2.2.2.2.2.2.2, d3.2.2)], u2.2.2.2.2.2.2.1))
      else
        none
    else
      none
  | .inr w3 =>
    bif inb d10 d4.length then
      (nth d4 d10.toNat).bind fun (x5 : Int) =>
      bif decide (x5 < 0) then
        bif (Nat.ble (w3.2.2.2.2.2.1.length + 1) most) && true then
          bif (Nat.ble (w3.2.2.1.length + 1) most) && true then
            some (.inl (w3.1, w3.2.1, (d3.1, w3.2.2.2.2.2.2.2, d3.2.2), d4, w3.2.2.2.1, w3.2.2.2.2.1, w3.2.2.2.2.2.2.1, w3.2.2.1 ++ [(d3.1, w3.2.2.2.2.2.2.2, d3.2.2)], w3.2.2.2.2.2.1 ++ [w3.2.2.2.2.2.2.2]))
          else
            none
        else
          none
      else
      bif (Nat.ble (w3.2.2.1.length + 1) most) && true then
        some (.inr (w3.1, w3.2.1, (d3.1, w3.2.2.2.2.2.2.2, d3.2.2), d4, w3.2.2.2.1, w3.2.2.2.2.1, w3.2.2.2.2.2.1, assocSet (CT.eqK (.int .i64)) w3.2.2.2.2.2.2.1 d10 w3.2.2.2.2.2.2.2, w3.2.2.1 ++ [(d3.1, w3.2.2.2.2.2.2.2, d3.2.2)]))
      else
        none
    else
      none
theorem eb197 (rf : T.RF) (rb : T.RB) (d1 : Int) (d2 : Int) (d3 : XI) (d4 : List Int) (d5 : List XI) (d6 : List Int) (d7 : List Int) (d8 : List Int) (d9 : List (Int × Int)) (d10 : Int) : T.stepB rf rb 197 (d1, d2, d3, d4, d5, d6, d7, d8, d9, d10) = b197q rf rb d1 d2 d3 d4 d5 d6 d7 d8 d9 d10 := by kernel_rfl
theorem sb197 (rf : T.RF) (rb : T.RB) (d1 : Int) (d2 : Int) (d3 : XI) (d4 : List Int) (d5 : List XI) (d6 : List Int) (d7 : List Int) (d8 : List Int) (d9 : List (Int × Int)) (d10 : Int) : b197q rf rb d1 d2 d3 d4 d5 d6 d7 d8 d9 d10 = b197 rf rb d1 d2 d3 d4 d5 d6 d7 d8 d9 d10 := by
  unfold b197q b197; simp only [agN_eq, agree_self, agree_swap]
theorem ob197 {d1 : Int} {d2 : Int} {d3 : XI} {d4 : List Int} {d5 : List XI} {d6 : List Int} {d7 : List Int} {d8 : List Int} {d9 : List (Int × Int)} {d10 : Int} {y : ((Int × Int × XI × List Int × List Int × List Int × List (Int × Int) × List XI × List Int) ⊕ (Int × Int × XI × List Int × List Int × List Int × List Int × List (Int × Int) × List XI))} (h : b197 T.rf T.rb d1 d2 d3 d4 d5 d6 d7 d8 d9 d10 = some y) : k197 T.rb d1 d2 d3 d4 d5 d6 d7 d8 d9 d10 = some y := T.rb_of (κ := 197) (d := (d1, d2, d3, d4, d5, d6, d7, d8, d9, d10)) (((eb197 T.rf T.rb d1 d2 d3 d4 d5 d6 d7 d8 d9 d10).trans (sb197 T.rf T.rb d1 d2 d3 d4 d5 d6 d7 d8 d9 d10)).trans h)

/- code.Make tail 33 -/
noncomputable def b198 (rf : T.RF) (rb : T.RB) (d1 : Int) (d2 : Int) (d3 : List Int) (d4 : List Int) (d5 : List XI) (d6 : List Int) (d7 : List Int) (d8 : List Int) (d9 : List (Int × Int)) (d10 : XI) (d11 : Int) : Option (Int × Int × List Int × List Int × List XI × List Int × List Int × List (Int × Int) × XI × List Int) :=
  (k199 rb d1 d2 d3 d5 d6 d7 d8 d9 d10 (((d3.length : Nat) : Int)) 0).bind fun (z1 : Int × Int × List Int × List XI × List Int × List Int × List Int × List (Int × Int) × XI) =>
  (k200 rb z1.1 z1.2.1 z1.2.2.1 d4 z1.2.2.2.1 z1.2.2.2.2.1 z1.2.2.2.2.2.1 z1.2.2.2.2.2.2.1 z1.2.2.2.2.2.2.2.1 d11 (((z1.2.2.1.length : Nat) : Int)) 0).bind fun (z2 : Int × Int × List Int × List Int × List XI × List Int × List Int × List (Int × Int) × List Int) =>
  some (z2.1, z2.2.1, z2.2.2.1, z2.2.2.2.1, z2.2.2.2.2.1, z2.2.2.2.2.2.1, z2.2.2.2.2.2.2.1, z2.2.2.2.2.2.2.2.1, z1.2.2.2.2.2.2.2.2, z2.2.2.2.2.2.2.2.2)
theorem eb198 (rf : T.RF) (rb : T.RB) (d1 : Int) (d2 : Int) (d3 : List Int) (d4 : List Int) (d5 : List XI) (d6 : List Int) (d7 : List Int) (d8 : List Int) (d9 : List (Int × Int)) (d10 : XI) (d11 : Int) : T.stepB rf rb 198 (d1, d2, d3, d4, d5, d6, d7, d8, d9, d10, d11) = b198 rf rb d1 d2 d3 d4 d5 d6 d7 d8 d9 d10 d11 := by kernel_rfl
theorem ob198 {d1 : Int} {d2 : Int} {d3 : List Int} {d4 : List Int} {d5 : List XI} {d6 : List Int} {d7 : List Int} {d8 : List Int} {d9 : List (Int × Int)} {d10 : XI} {d11 : Int} {y : (Int × Int × List Int × List Int × List XI × List Int × List Int × List (Int × Int) × XI × List Int)} (h : b198 T.rf T.rb d1 d2 d3 d4 d5 d6 d7 d8 d9 d10 d11 = some y) : k198 T.rb d1 d2 d3 d4 d5 d6 d7 d8 d9 d10 d11 = some y := T.rb_of (κ := 198) (d := (d1, d2, d3, d4, d5, d6, d7, d8, d9, d10, d11)) ((eb198 T.rf T.rb d1 d2 d3 d4 d5 d6 d7 d8 d9 d10 d11).trans h)

/- code.Make loop 6 -/
noncomputable def b199 (rf : T.RF) (rb : T.RB) (d1 : Int) (d2 : Int) (d3 : List Int) (d4 : List XI) (d5 : List Int) (d6 : List Int) (d7 : List Int) (d8 : List (Int × Int)) (d9 : XI) (d10 : Int) (d11 : Int) : Option (Int × Int × List Int × List XI × List Int × List Int × List Int × List (Int × Int) × XI) :=
  bif decide (d11 < d10) then
    bif inb d11 d3.length then
      (nth d3 d11.toNat).bind fun (x1 : Int) =>
      bif inb d11 3 then
        bif Nat.beq d11.toNat 2 then
          k199 rb d1 d2 d3 d4 d5 d6 d7 d8 (d9.1, d9.2.1, d9.2.2.1, d9.2.2.2.1, assocGet (CT.eqK (.int .i64)) 0 d8 x1, d9.2.2.2.2.2) d10 (IntKind.i64.wrap (d11 + 1))
        else
        bif Nat.beq d11.toNat 1 then
          k199 rb d1 d2 d3 d4 d5 d6 d7 d8 (d9.1, d9.2.1, d9.2.2.1, assocGet (CT.eqK (.int .i64)) 0 d8 x1, d9.2.2.2.2) d10 (IntKind.i64.wrap (d11 + 1))
        else
        bif Nat.beq d11.toNat 0 then
          k199 rb d1 d2 d3 d4 d5 d6 d7 d8 (d9.1, d9.2.1, assocGet (CT.eqK (.int .i64)) 0 d8 x1, d9.2.2.2) d10 (IntKind.i64.wrap (d11 + 1))
        else
          none
      else
        none
    else
      none
  else
    some (d1, d2, d3, d4, d5, d6, d7, d8, d9)
theorem eb199 (rf : T.RF) (rb : T.RB) (d1 : Int) (d2 : Int) (d3 : List Int) (d4 : List XI) (d5 : List Int) (d6 : List Int) (d7 : List Int) (d8 : List (Int × Int)) (d9 : XI) (d10 : Int) (d11 : Int) : T.stepB rf rb 199 (d1, d2, d3, d4, d5, d6, d7, d8, d9, d10, d11) = b199 rf rb d1 d2 d3 d4 d5 d6 d7 d8 d9 d10 d11 := by kernel_rfl
theorem ob199 {d1 : Int} {d2 : Int} {d3 : List Int} {d4 : List XI} {d5 : List Int} {d6 : List Int} {d7 : List Int} {d8 : List (Int × Int)} {d9 : XI} {d10 : Int} {d11 : Int} {y : (Int × Int × List Int × List XI × List Int × List Int × List Int × List (Int × Int) × XI)} (h : b199 T.rf T.rb d1 d2 d3 d4 d5 d6 d7 d8 d9 d10 d11 = some y) : k199 T.rb d1 d2 d3 d4 d5 d6 d7 d8 d9 d10 d11 = some y := T.rb_of (κ := 199) (d := (d1, d2, d3, d4, d5, d6, d7, d8, d9, d10, d11)) ((eb199 T.rf T.rb d1 d2 d3 d4 d5 d6 d7 d8 d9 d10 d11).trans h)

/- code.Make loop 8 -/
noncomputable def b200 (rf : T.RF) (rb : T.RB) (d1 : Int) (d2 : Int) (d3 : List Int) (d4 : List Int) (d5 : List XI) (d6 : List Int) (d7 : List Int) (d8 : List Int) (d9 : List (Int × Int)) (d10 : Int) (d11 : Int) (d12 : Int) : Option (Int × Int × List Int × List Int × List XI × List Int × List Int × List (Int × Int) × List Int) :=
  bif decide (d12 < d11) then
    bif inb d12 d3.length then
      (nth d3 d12.toNat).bind fun (x1 : Int) =>
      bif assocHas (CT.eqK (.int .i64)) d9 x1 then
        bif inb x1 d4.length then
          (nth d4 x1.toNat).bind fun (x2 : Int) =>
          bif x2 == d10 then
            bif (Nat.ble (d8.length + 1) most) && true then
              k200 rb d1 d2 d3 d4 d5 d6 d7 (d8 ++ [assocGet (CT.eqK (.int .i64)) 0 d9 x1]) (assocDel (CT.eqK (.int .i64)) d9 x1) d10 d11 (IntKind.i64.wrap (d12 + 1))
            else
              none
          else
            k200 rb d1 d2 d3 d4 d5 d6 d7 d8 d9 d10 d11 (IntKind.i64.wrap (d12 + 1))
        else
          none
      else
        k200 rb d1 d2 d3 d4 d5 d6 d7 d8 d9 d10 d11 (IntKind.i64.wrap (d12 + 1))
    else
      none
  else
    some (d1, d2, d3, d4, d5, d6, d7, d9, d8)
theorem eb200 (rf : T.RF) (rb : T.RB) (d1 : Int) (d2 : Int) (d3 : List Int) (d4 : List Int) (d5 : List XI) (d6 : List Int) (d7 : List Int) (d8 : List Int) (d9 : List (Int × Int)) (d10 : Int) (d11 : Int) (d12 : Int) : T.stepB rf rb 200 (d1, d2, d3, d4, d5, d6, d7, d8, d9, d10, d11, d12) = b200 rf rb d1 d2 d3 d4 d5 d6 d7 d8 d9 d10 d11 d12 := by kernel_rfl
theorem ob200 {d1 : Int} {d2 : Int} {d3 : List Int} {d4 : List Int} {d5 : List XI} {d6 : List Int} {d7 : List Int} {d8 : List Int} {d9 : List (Int × Int)} {d10 : Int} {d11 : Int} {d12 : Int} {y : (Int × Int × List Int × List Int × List XI × List Int × List Int × List (Int × Int) × List Int)} (h : b200 T.rf T.rb d1 d2 d3 d4 d5 d6 d7 d8 d9 d10 d11 d12 = some y) : k200 T.rb d1 d2 d3 d4 d5 d6 d7 d8 d9 d10 d11 d12 = some y := T.rb_of (κ := 200) (d := (d1, d2, d3, d4, d5, d6, d7, d8, d9, d10, d11, d12)) ((eb200 T.rf T.rb d1 d2 d3 d4 d5 d6 d7 d8 d9 d10 d11 d12).trans h)

/- code.Make loop 10 -/
noncomputable def b201q (rf : T.RF) (rb : T.RB) (d1 : List (Int × Int)) (d2 : Int) (d3 : Int) (d4 : List XI) (d5 : List Int) (d6 : List Int) (d7 : List Int) (d8 : List (Int × Int)) (d9 : Int) (d10 : Int) : Option (List (Int × Int) × Int × Int × List Int × List Int × List Int × List (Int × Int) × List XI) :=
  bif decide (d10 < d9) then
    bif assocHas (CT.eqK (.int .i64)) d1 d10 then
      agN 3 (
        bif (Nat.ble (d4.length + 1) most) && true then
          k201 rb d1 d2 d3 (d4 ++ [(30, 0, assocGet (CT.eqK (.int .i64)) 0 d8 d10, 0, 0, assocGet (CT.eqK (.int .i64)) 0 d1 d10)]) d5 d6 d7 d8 d9 (IntKind.i64.wrap (d10 + 1))
        else
          none
      )
    else
      k201 rb d1 d2 d3 d4 d5 d6 d7 d8 d9 (IntKind.i64.wrap (d10 + 1))
  else
    some (d1, d2, d3, d5, d6, d7, d8, d4)
noncomputable def b201 (rf : T.RF) (rb : T.RB) (d1 : List (Int × Int)) (d2 : Int) (d3 : Int) (d4 : List XI) (d5 : List Int) (d6 : List Int) (d7 : List Int) (d8 : List (Int × Int)) (d9 : Int) (d10 : Int) : Option (List (Int × Int) × Int × Int × List Int × List Int × List Int × List (Int × Int) × List XI) :=
  bif decide (d10 < d9) then
    bif assocHas (CT.eqK (.int .i64)) d1 d10 then
      bif (Nat.ble (d4.length + 1) most) && true then
        k201 rb d1 d2 d3 (d4 ++ [(30, 0, assocGet (CT.eqK (.int .i64)) 0 d8 d10, 0, 0, assocGet (CT.eqK (.int .i64)) 0 d1 d10)]) d5 d6 d7 d8 d9 (IntKind.i64.wrap (d10 + 1))
      else
        none
    else
      k201 rb d1 d2 d3 d4 d5 d6 d7 d8 d9 (IntKind.i64.wrap (d10 + 1))
  else
    some (d1, d2, d3, d5, d6, d7, d8, d4)
theorem eb201 (rf : T.RF) (rb : T.RB) (d1 : List (Int × Int)) (d2 : Int) (d3 : Int) (d4 : List XI) (d5 : List Int) (d6 : List Int) (d7 : List Int) (d8 : List (Int × Int)) (d9 : Int) (d10 : Int) : T.stepB rf rb 201 (d1, d2, d3, d4, d5, d6, d7, d8, d9, d10) = b201q rf rb d1 d2 d3 d4 d5 d6 d7 d8 d9 d10 := by kernel_rfl
theorem sb201 (rf : T.RF) (rb : T.RB) (d1 : List (Int × Int)) (d2 : Int) (d3 : Int) (d4 : List XI) (d5 : List Int) (d6 : List Int) (d7 : List Int) (d8 : List (Int × Int)) (d9 : Int) (d10 : Int) : b201q rf rb d1 d2 d3 d4 d5 d6 d7 d8 d9 d10 = b201 rf rb d1 d2 d3 d4 d5 d6 d7 d8 d9 d10 := by
  unfold b201q b201; simp only [agN_eq, agree_self, agree_swap]
theorem ob201 {d1 : List (Int × Int)} {d2 : Int} {d3 : Int} {d4 : List XI} {d5 : List Int} {d6 : List Int} {d7 : List Int} {d8 : List (Int × Int)} {d9 : Int} {d10 : Int} {y : (List (Int × Int) × Int × Int × List Int × List Int × List Int × List (Int × Int) × List XI)} (h : b201 T.rf T.rb d1 d2 d3 d4 d5 d6 d7 d8 d9 d10 = some y) : k201 T.rb d1 d2 d3 d4 d5 d6 d7 d8 d9 d10 = some y := T.rb_of (κ := 201) (d := (d1, d2, d3, d4, d5, d6, d7, d8, d9, d10)) (((eb201 T.rf T.rb d1 d2 d3 d4 d5 d6 d7 d8 d9 d10).trans (sb201 T.rf T.rb d1 d2 d3 d4 d5 d6 d7 d8 d9 d10)).trans h)

/- code.Make loop 12 -/
noncomputable def b202q (rf : T.RF) (rb : T.RB) (d1 : XT) (d2 : Int) (d3 : Int) (d4 : List XI) (d5 : List Int) (d6 : List Int) (d7 : List Int) (d8 : List (Int × Int)) (d9 : List Int) (d10 : Int) (d11 : Int) : Option (XT × Int × Int × List XI × List Int × List Int × List (Int × Int) × List Int) :=
  bif decide (d11 < d10) then
    bif inb d11 d9.length then
      (nth d9 d11.toNat).bind fun (x1 : Int) =>
      bif inb x1 d1.2.1.length then
        (nth d1.2.1 x1.toNat).bind fun (x2 : Int) =>
        agN 3 (
          bif (Nat.ble (d5.length + 1) most) && true then
            k202 rb d1 d2 d3 d4 (d5 ++ [assocGet (CT.eqK (.int .i64)) 0 d8 x2]) d6 d7 d8 d9 d10 (IntKind.i64.wrap (d11 + 1))
          else
            none
        )
      else
        none
    else
      none
  else
    some (d1, d2, d3, d4, d6, d7, d8, d5)
noncomputable def b202 (rf : T.RF) (rb : T.RB) (d1 : XT) (d2 : Int) (d3 : Int) (d4 : List XI) (d5 : List Int) (d6 : List Int) (d7 : List Int) (d8 : List (Int × Int)) (d9 : List Int) (d10 : Int) (d11 : Int) : Option (XT × Int × Int × List XI × List Int × List Int × List (Int × Int) × List Int) :=
  bif decide (d11 < d10) then
    bif inb d11 d9.length then
      (nth d9 d11.toNat).bind fun (x1 : Int) =>
      bif inb x1 d1.2.1.length then
        (nth d1.2.1 x1.toNat).bind fun (x2 : Int) =>
        bif (Nat.ble (d5.length + 1) most) && true then
          k202 rb d1 d2 d3 d4 (d5 ++ [assocGet (CT.eqK (.int .i64)) 0 d8 x2]) d6 d7 d8 d9 d10 (IntKind.i64.wrap (d11 + 1))
        else
          none
      else
        none
    else
      none
  else
    some (d1, d2, d3, d4, d6, d7, d8, d5)
theorem eb202 (rf : T.RF) (rb : T.RB) (d1 : XT) (d2 : Int) (d3 : Int) (d4 : List XI) (d5 : List Int) (d6 : List Int) (d7 : List Int) (d8 : List (Int × Int)) (d9 : List Int) (d10 : Int) (d11 : Int) : T.stepB rf rb 202 (d1, d2, d3, d4, d5, d6, d7, d8, d9, d10, d11) = b202q rf rb d1 d2 d3 d4 d5 d6 d7 d8 d9 d10 d11 := by kernel_rfl
theorem sb202 (rf : T.RF) (rb : T.RB) (d1 : XT) (d2 : Int) (d3 : Int) (d4 : List XI) (d5 : List Int) (d6 : List Int) (d7 : List Int) (d8 : List (Int × Int)) (d9 : List Int) (d10 : Int) (d11 : Int) : b202q rf rb d1 d2 d3 d4 d5 d6 d7 d8 d9 d10 d11 = b202 rf rb d1 d2 d3 d4 d5 d6 d7 d8 d9 d10 d11 := by
  unfold b202q b202; simp only [agN_eq, agree_self, agree_swap]
theorem ob202 {d1 : XT} {d2 : Int} {d3 : Int} {d4 : List XI} {d5 : List Int} {d6 : List Int} {d7 : List Int} {d8 : List (Int × Int)} {d9 : List Int} {d10 : Int} {d11 : Int} {y : (XT × Int × Int × List XI × List Int × List Int × List (Int × Int) × List Int)} (h : b202 T.rf T.rb d1 d2 d3 d4 d5 d6 d7 d8 d9 d10 d11 = some y) : k202 T.rb d1 d2 d3 d4 d5 d6 d7 d8 d9 d10 d11 = some y := T.rb_of (κ := 202) (d := (d1, d2, d3, d4, d5, d6, d7, d8, d9, d10, d11)) (((eb202 T.rf T.rb d1 d2 d3 d4 d5 d6 d7 d8 d9 d10 d11).trans (sb202 T.rf T.rb d1 d2 d3 d4 d5 d6 d7 d8 d9 d10 d11)).trans h)

/- code.Make -/
noncomputable def r4 (rf : T.RF) (rb : T.RB) (d1 : XT) (d2 : List Int) : Option (XC × Int) :=
  (c5 rf d1).bind fun (y1 : XT × Int) =>
  bif y1.2 != 0 then
    some (([], 0, 0, [], []), y1.2)
  else
    (c38 rf y1.1).bind fun (y2 : List Int) =>
    (k194 rb y1.1 0 0 [] [] [] y2 d2 (((d2.length : Nat) : Int)) 0).bind fun (z3 : (XT × Int × Int × List Int × List XI × List Int × List Int × List XI × List Int × Int) ⊕ (XT × Int × Int × List Int × List XI × List Int × List Int)) =>
    match z3 with
    | .inl u4 =>
      some ((u4.2.2.2.2.2.2.2.1, u4.2.1, u4.2.2.1, u4.2.2.2.2.2.2.2.2.1, u4.2.2.2.1), u4.2.2.2.2.2.2.2.2.2)
    | .inr w5 =>
      (k195 rb w5.1 [] w5.2.2.2.2.2.2 w5.1.1 (((w5.1.1.length : Nat) : Int)) 0).bind fun (z6 : XT × List (Int × Int) × List Int) =>
      (c37 rf z6.1.2.2).bind fun (y7 : List Int) =>
      (k196 rb z6.2.1 0 (((z6.2.1.length : Nat) : Int)) z6.2.2 [] [] y7 [] [] z6.1.1 (((z6.1.1.length : Nat) : Int)) 0).bind fun (z8 : List (Int × Int) × Int × Int × List Int × List Int × List Int × List (Int × Int) × List XI × List Int) =>
      (k201 rb z8.1 z8.2.1 z8.2.2.1 z8.2.2.2.2.2.2.2.1 z8.2.2.2.2.1 z8.2.2.2.2.2.1 z8.2.2.2.2.2.2.2.2 z8.2.2.2.2.2.2.1 (((z6.1.1.length : Nat) : Int)) 0).bind fun (z9 : List (Int × Int) × Int × Int × List Int × List Int × List Int × List (Int × Int) × List XI) =>
      (k202 rb z6.1 z9.2.1 z9.2.2.1 z9.2.2.2.2.2.2.2 z9.2.2.2.1 z9.2.2.2.2.1 z9.2.2.2.2.2.1 z9.2.2.2.2.2.2.1 d2 (((d2.length : Nat) : Int)) 0).bind fun (z10 : XT × Int × Int × List XI × List Int × List Int × List (Int × Int) × List Int) =>
      some ((z10.2.2.2.1, z10.2.1, z10.2.2.1, z10.2.2.2.2.2.2.2, z10.2.2.2.2.1), 0)
theorem er4 (rf : T.RF) (rb : T.RB) (d1 : XT) (d2 : List Int) : T.stepF rf rb 4 (d1, d2) = r4 rf rb d1 d2 := by kernel_rfl
theorem or4 {d1 : XT} {d2 : List Int} {y : (XC × Int)} (h : r4 T.rf T.rb d1 d2 = some y) : c4 T.rf d1 d2 = some y := T.rf_of (f := 4) (d := (d1, d2)) ((er4 T.rf T.rb d1 d2).trans h)

/- bailmentlaw16.Told loop 0 -/
noncomputable def b204 (rf : T.RF) (rb : T.RB) (d1 : XC) (d2 : Int) (d3 : Int) (d4 : List Int) (d5 : List Int) (d6 : List XI) (d7 : Int) : Option (XC × Int × Int × List Int × List Int × List XI) :=
  bif decide (d7 < (((d1.1.length : Nat) : Int))) then
    bif inb d7 d1.1.length then
      (nth d1.1 d7.toNat).bind fun (x1 : XI) =>
      bif (Nat.ble (d6.length + 1) most) && true then
        k204 rb d1 d2 d3 d4 d5 (d6 ++ [x1]) (IntKind.i64.wrap (d7 + 1))
      else
        none
    else
      none
  else
    some (d1, d2, d3, d4, d5, d6)
theorem eb204 (rf : T.RF) (rb : T.RB) (d1 : XC) (d2 : Int) (d3 : Int) (d4 : List Int) (d5 : List Int) (d6 : List XI) (d7 : Int) : T.stepB rf rb 204 (d1, d2, d3, d4, d5, d6, d7) = b204 rf rb d1 d2 d3 d4 d5 d6 d7 := by kernel_rfl
theorem ob204 {d1 : XC} {d2 : Int} {d3 : Int} {d4 : List Int} {d5 : List Int} {d6 : List XI} {d7 : Int} {y : (XC × Int × Int × List Int × List Int × List XI)} (h : b204 T.rf T.rb d1 d2 d3 d4 d5 d6 d7 = some y) : k204 T.rb d1 d2 d3 d4 d5 d6 d7 = some y := T.rb_of (κ := 204) (d := (d1, d2, d3, d4, d5, d6, d7)) ((eb204 T.rf T.rb d1 d2 d3 d4 d5 d6 d7).trans h)

/- bailmentlaw16.Told -/
noncomputable def r49 (rf : T.RF) (rb : T.RB) (d1 : XC) : Option XC :=
  (k204 rb d1 d1.2.1 d1.2.2.1 d1.2.2.2.1 d1.2.2.2.2 [] 0).bind fun (z1 : XC × Int × Int × List Int × List Int × List XI) =>
  some (z1.2.2.2.2.2, z1.2.1, z1.2.2.1, z1.2.2.2.1, z1.2.2.2.2.1)
theorem er49 (rf : T.RF) (rb : T.RB) (d1 : XC) : T.stepF rf rb 49 d1 = r49 rf rb d1 := by kernel_rfl
theorem or49 {d1 : XC} {y : XC} (h : r49 T.rf T.rb d1 = some y) : c49 T.rf d1 = some y := T.rf_of (f := 49) (d := d1) ((er49 T.rf T.rb d1).trans h)

/- bailmentref01.Operands -/
noncomputable def r53 (rf : T.RF) (rb : T.RB) (d1 : Int) : Option Int :=
  bif d1 == 4 then
    bif d1 == 4 then
      some 1
    else
    bif d1 == 26 then
      some 3
    else
    bif decide (d1 ≥ 6) then
      bif decide (d1 ≤ 18) then
        some 2
      else
        some (-1)
    else
      some (-1)
  else
  bif d1 == 5 then
    some 1
  else
  bif d1 == 26 then
    some 3
  else
  bif decide (d1 ≥ 6) then
    bif decide (d1 ≤ 18) then
      some 2
    else
      some (-1)
  else
    some (-1)
theorem er53 (rf : T.RF) (rb : T.RB) (d1 : Int) : T.stepF rf rb 53 d1 = r53 rf rb d1 := by kernel_rfl
theorem or53 {d1 : Int} {y : Int} (h : r53 T.rf T.rb d1 = some y) : c53 T.rf d1 = some y := T.rf_of (f := 53) (d := d1) ((er53 T.rf T.rb d1).trans h)

/- bailmentref16.Reads -/
noncomputable def r52 (rf : T.RF) (rb : T.RB) (d1 : XI) : Option (List Int × Bool) :=
  bif d1.1 == 3 then
    bif d1.1 == 3 then
      some ([], true)
    else
    bif d1.1 == 30 then
      some ([d1.2.2.1], true)
    else
    bif d1.1 == 19 then
      some ([d1.2.2.1, d1.2.2.2.1], true)
    else
      (c53 rf d1.1).bind fun (y1 : Int) =>
      bif decide (y1 < 0) then
        some ([], false)
      else
      bif inb' y1 3 then
        some (sub [d1.2.2.1, d1.2.2.2.1, d1.2.2.2.2.1] (some (0, (y1.toNat - 0))), true)
      else
        none
  else
  bif d1.1 == 1 then
    bif d1.1 == 1 then
      some ([], true)
    else
    bif d1.1 == 30 then
      some ([d1.2.2.1], true)
    else
    bif d1.1 == 19 then
      some ([d1.2.2.1, d1.2.2.2.1], true)
    else
      (c53 rf d1.1).bind fun (y2 : Int) =>
      bif decide (y2 < 0) then
        some ([], false)
      else
      bif inb' y2 3 then
        some (sub [d1.2.2.1, d1.2.2.2.1, d1.2.2.2.2.1] (some (0, (y2.toNat - 0))), true)
      else
        none
  else
  bif d1.1 == 2 then
    bif d1.1 == 2 then
      some ([], true)
    else
    bif d1.1 == 30 then
      some ([d1.2.2.1], true)
    else
    bif d1.1 == 19 then
      some ([d1.2.2.1, d1.2.2.2.1], true)
    else
      (c53 rf d1.1).bind fun (y3 : Int) =>
      bif decide (y3 < 0) then
        some ([], false)
      else
      bif inb' y3 3 then
        some (sub [d1.2.2.1, d1.2.2.2.1, d1.2.2.2.2.1] (some (0, (y3.toNat - 0))), true)
      else
        none
  else
  bif d1.1 == 21 then
    some ([], true)
  else
  bif d1.1 == 30 then
    some ([d1.2.2.1], true)
  else
  bif d1.1 == 19 then
    some ([d1.2.2.1, d1.2.2.2.1], true)
  else
    (c53 rf d1.1).bind fun (y4 : Int) =>
    bif decide (y4 < 0) then
      some ([], false)
    else
    bif inb' y4 3 then
      some (sub [d1.2.2.1, d1.2.2.2.1, d1.2.2.2.2.1] (some (0, (y4.toNat - 0))), true)
    else
      none
theorem er52 (rf : T.RF) (rb : T.RB) (d1 : XI) : T.stepF rf rb 52 d1 = r52 rf rb d1 := by kernel_rfl
theorem or52 {d1 : XI} {y : (List Int × Bool)} (h : r52 T.rf T.rb d1 = some y) : c52 T.rf d1 = some y := T.rf_of (f := 52) (d := d1) ((er52 T.rf T.rb d1).trans h)

/- bailmentref16.rest -/
noncomputable def r54 (rf : T.RF) (rb : T.RB) (d1 : XI) (d2 : Int) : Option Bool :=
  bif decide (d2 < 1) then
    bif d1.2.2.1 != 0 then
      some false
    else
    bif decide (d2 < 2) then
      bif d1.2.2.2.1 != 0 then
        some false
      else
      bif decide (d2 < 3) then
        bif d1.2.2.2.2.1 != 0 then
          some false
        else
        bif d1.1 == 3 then
          bif d1.1 != 30 then
            some true
          else
            some (d1.2.1 == 0)
        else
        bif d1.1 == 1 then
          bif d1.1 != 30 then
            some true
          else
            some (d1.2.1 == 0)
        else
        bif d1.1 == 2 then
          bif d1.1 != 30 then
            some true
          else
            some (d1.2.1 == 0)
        else
        bif d1.1 == 21 then
          bif d1.1 != 30 then
            some true
          else
            some (d1.2.1 == 0)
        else
        bif d1.1 == 30 then
          bif d1.1 != 30 then
            some true
          else
            some (d1.2.1 == 0)
        else
        bif d1.2.2.2.2.2 == 0 then
          bif d1.1 != 30 then
            some true
          else
            some (d1.2.1 == 0)
        else
          some false
      else
      bif d1.1 == 3 then
        bif d1.1 != 30 then
          some true
        else
          some (d1.2.1 == 0)
      else
      bif d1.1 == 1 then
        bif d1.1 != 30 then
          some true
        else
          some (d1.2.1 == 0)
      else
      bif d1.1 == 2 then
        bif d1.1 != 30 then
          some true
        else
          some (d1.2.1 == 0)
      else
      bif d1.1 == 21 then
        bif d1.1 != 30 then
          some true
        else
          some (d1.2.1 == 0)
      else
      bif d1.1 == 30 then
        bif d1.1 != 30 then
          some true
        else
          some (d1.2.1 == 0)
      else
      bif d1.2.2.2.2.2 == 0 then
        bif d1.1 != 30 then
          some true
        else
          some (d1.2.1 == 0)
      else
        some false
    else
    bif decide (d2 < 3) then
      bif d1.2.2.2.2.1 != 0 then
        some false
      else
      bif d1.1 == 3 then
        bif d1.1 != 30 then
          some true
        else
          some (d1.2.1 == 0)
      else
      bif d1.1 == 1 then
        bif d1.1 != 30 then
          some true
        else
          some (d1.2.1 == 0)
      else
      bif d1.1 == 2 then
        bif d1.1 != 30 then
          some true
        else
          some (d1.2.1 == 0)
      else
      bif d1.1 == 21 then
        bif d1.1 != 30 then
          some true
        else
          some (d1.2.1 == 0)
      else
      bif d1.1 == 30 then
        bif d1.1 != 30 then
          some true
        else
          some (d1.2.1 == 0)
      else
      bif d1.2.2.2.2.2 == 0 then
        bif d1.1 != 30 then
          some true
        else
          some (d1.2.1 == 0)
      else
        some false
    else
    bif d1.1 == 3 then
      bif d1.1 != 30 then
        some true
      else
        some (d1.2.1 == 0)
    else
    bif d1.1 == 1 then
      bif d1.1 != 30 then
        some true
      else
        some (d1.2.1 == 0)
    else
    bif d1.1 == 2 then
      bif d1.1 != 30 then
        some true
      else
        some (d1.2.1 == 0)
    else
    bif d1.1 == 21 then
      bif d1.1 != 30 then
        some true
      else
        some (d1.2.1 == 0)
    else
    bif d1.1 == 30 then
      bif d1.1 != 30 then
        some true
      else
        some (d1.2.1 == 0)
    else
    bif d1.2.2.2.2.2 == 0 then
      bif d1.1 != 30 then
        some true
      else
        some (d1.2.1 == 0)
    else
      some false
  else
  bif decide (d2 < 2) then
    bif d1.2.2.2.1 != 0 then
      some false
    else
    bif decide (d2 < 3) then
      bif d1.2.2.2.2.1 != 0 then
        some false
      else
      bif d1.1 == 3 then
        bif d1.1 != 30 then
          some true
        else
          some (d1.2.1 == 0)
      else
      bif d1.1 == 1 then
        bif d1.1 != 30 then
          some true
        else
          some (d1.2.1 == 0)
      else
      bif d1.1 == 2 then
        bif d1.1 != 30 then
          some true
        else
          some (d1.2.1 == 0)
      else
      bif d1.1 == 21 then
        bif d1.1 != 30 then
          some true
        else
          some (d1.2.1 == 0)
      else
      bif d1.1 == 30 then
        bif d1.1 != 30 then
          some true
        else
          some (d1.2.1 == 0)
      else
      bif d1.2.2.2.2.2 == 0 then
        bif d1.1 != 30 then
          some true
        else
          some (d1.2.1 == 0)
      else
        some false
    else
    bif d1.1 == 3 then
      bif d1.1 != 30 then
        some true
      else
        some (d1.2.1 == 0)
    else
    bif d1.1 == 1 then
      bif d1.1 != 30 then
        some true
      else
        some (d1.2.1 == 0)
    else
    bif d1.1 == 2 then
      bif d1.1 != 30 then
        some true
      else
        some (d1.2.1 == 0)
    else
    bif d1.1 == 21 then
      bif d1.1 != 30 then
        some true
      else
        some (d1.2.1 == 0)
    else
    bif d1.1 == 30 then
      bif d1.1 != 30 then
        some true
      else
        some (d1.2.1 == 0)
    else
    bif d1.2.2.2.2.2 == 0 then
      bif d1.1 != 30 then
        some true
      else
        some (d1.2.1 == 0)
    else
      some false
  else
  bif decide (d2 < 3) then
    bif d1.2.2.2.2.1 != 0 then
      some false
    else
    bif d1.1 == 3 then
      bif d1.1 != 30 then
        some true
      else
        some (d1.2.1 == 0)
    else
    bif d1.1 == 1 then
      bif d1.1 != 30 then
        some true
      else
        some (d1.2.1 == 0)
    else
    bif d1.1 == 2 then
      bif d1.1 != 30 then
        some true
      else
        some (d1.2.1 == 0)
    else
    bif d1.1 == 21 then
      bif d1.1 != 30 then
        some true
      else
        some (d1.2.1 == 0)
    else
    bif d1.1 == 30 then
      bif d1.1 != 30 then
        some true
      else
        some (d1.2.1 == 0)
    else
    bif d1.2.2.2.2.2 == 0 then
      bif d1.1 != 30 then
        some true
      else
        some (d1.2.1 == 0)
    else
      some false
  else
  bif d1.1 == 3 then
    bif d1.1 != 30 then
      some true
    else
      some (d1.2.1 == 0)
  else
  bif d1.1 == 1 then
    bif d1.1 != 30 then
      some true
    else
      some (d1.2.1 == 0)
  else
  bif d1.1 == 2 then
    bif d1.1 != 30 then
      some true
    else
      some (d1.2.1 == 0)
  else
  bif d1.1 == 21 then
    bif d1.1 != 30 then
      some true
    else
      some (d1.2.1 == 0)
  else
  bif d1.1 == 30 then
    bif d1.1 != 30 then
      some true
    else
      some (d1.2.1 == 0)
  else
  bif d1.2.2.2.2.2 == 0 then
    bif d1.1 != 30 then
      some true
    else
      some (d1.2.1 == 0)
  else
    some false
theorem er54 (rf : T.RF) (rb : T.RB) (d1 : XI) (d2 : Int) : T.stepF rf rb 54 (d1, d2) = r54 rf rb d1 d2 := by kernel_rfl
theorem or54 {d1 : XI} {d2 : Int} {y : Bool} (h : r54 T.rf T.rb d1 d2 = some y) : c54 T.rf d1 d2 = some y := T.rf_of (f := 54) (d := (d1, d2)) ((er54 T.rf T.rb d1 d2).trans h)

/- bailmentref01.Fits -/
noncomputable def r56 (rf : T.RF) (rb : T.RB) (d1 : Int) : Option Bool :=
  bif decide (d1 ≥ (-2147483648)) then
    some (decide (d1 ≤ 2147483647))
  else
    some false
theorem er56 (rf : T.RF) (rb : T.RB) (d1 : Int) : T.stepF rf rb 56 d1 = r56 rf rb d1 := by kernel_rfl
theorem or56 {d1 : Int} {y : Bool} (h : r56 T.rf T.rb d1 = some y) : c56 T.rf d1 = some y := T.rf_of (f := 56) (d := d1) ((er56 T.rf T.rb d1).trans h)

/- bailmentref16.number -/
noncomputable def r55 (rf : T.RF) (rb : T.RB) (d1 : XC) (d2 : XI) : Option Bool :=
  bif d2.1 == 3 then
    bif decide (d2.2.2.2.2.2 ≥ 0) then
      some (decide (d2.2.2.2.2.2 < (((d1.2.2.2.2.length : Nat) : Int))))
    else
      some false
  else
  bif d2.1 == 1 then
    (c56 rf d2.2.2.2.2.2).bind fun (y1 : Bool) =>
    some y1
  else
  bif d2.1 == 2 then
    bif d2.2.2.2.2.2 == 0 then
      some true
    else
      some (d2.2.2.2.2.2 == 1)
  else
  bif d2.1 == 21 then
    bif d2.1 == 21 then
      bif decide (d2.2.2.2.2.2 ≥ 0) then
        some (decide (d2.2.2.2.2.2 < d1.2.2.1))
      else
        some false
    else
      some true
  else
  bif d2.1 == 30 then
    bif decide (d2.2.2.2.2.2 ≥ 0) then
      some (decide (d2.2.2.2.2.2 < d1.2.2.1))
    else
      some false
  else
    some true
theorem er55 (rf : T.RF) (rb : T.RB) (d1 : XC) (d2 : XI) : T.stepF rf rb 55 (d1, d2) = r55 rf rb d1 d2 := by kernel_rfl
theorem or55 {d1 : XC} {d2 : XI} {y : Bool} (h : r55 T.rf T.rb d1 d2 = some y) : c55 T.rf d1 d2 = some y := T.rf_of (f := 55) (d := (d1, d2)) ((er55 T.rf T.rb d1 d2).trans h)

/- bailmentref16.written -/
noncomputable def r57 (rf : T.RF) (rb : T.RB) (d1 : List Bool) (d2 : Int) : Option (List Bool × Bool) :=
  bif decide (d2 ≥ 0) then
    bif decide (d2 < (((d1.length : Nat) : Int))) then
      bif inb d2 d1.length then
        (nth d1 d2.toNat).bind fun (x1 : Bool) =>
        some (d1, x1)
      else
        none
    else
      some (d1, false)
  else
    some (d1, false)
theorem er57 (rf : T.RF) (rb : T.RB) (d1 : List Bool) (d2 : Int) : T.stepF rf rb 57 (d1, d2) = r57 rf rb d1 d2 := by kernel_rfl
theorem or57 {d1 : List Bool} {d2 : Int} {y : (List Bool × Bool)} (h : r57 T.rf T.rb d1 d2 = some y) : c57 T.rf d1 d2 = some y := T.rf_of (f := 57) (d := (d1, d2)) ((er57 T.rf T.rb d1 d2).trans h)

/- bailmentref16.Check loop 0 -/
noncomputable def b205 (rf : T.RF) (rb : T.RB) (d1 : XC) (d2 : List Bool) (d3 : List Bool) (d4 : Bool) (d5 : Int) : Option ((XC × List Bool × List Bool × Int) ⊕ (XC × List Bool × List Bool)) :=
  bif decide (d5 < (((d1.1.length : Nat) : Int))) then
    bif inb d5 d1.1.length then
      (nth d1.1 d5.toNat).bind fun (x1 : XI) =>
      (c52 rf x1).bind fun (y2 : List Int × Bool) =>
      bif !y2.2 then
        some (.inl (d1, d2, d3, 1))
      else
        (c54 rf x1 (((y2.1.length : Nat) : Int))).bind fun (y3 : Bool) =>
        bif !y3 then
          some (.inl (d1, d2, d3, 1))
        else
          (c55 rf d1 x1).bind fun (y4 : Bool) =>
          bif !y4 then
            some (.inl (d1, d2, d3, 1))
          else
            (k206 rb d2 y2.1 0).bind fun (z5 : (List Bool × List Int × Int) ⊕ (List Bool × List Int)) =>
            match z5 with
            | .inl u6 =>
              some (.inl (d1, u6.1, d3, u6.2.2))
            | .inr w7 =>
              bif x1.1 == 30 then
                bif inb x1.2.2.2.2.2 d3.length then
                  (nth d3 x1.2.2.2.2.2.toNat).bind fun (x8 : Bool) =>
                  bif x8 then
                    some (.inl (d1, w7.1, d3, 1))
                  else
                  bif inb x1.2.2.2.2.2 d3.length then
                    bif Nat.blt x1.2.2.2.2.2.toNat d3.length then
                      k205 rb d1 w7.1 (setNth d3 x1.2.2.2.2.2.toNat true) true (IntKind.i64.wrap (d5 + 1))
                    else
                      none
                  else
                    none
                else
                  none
              else
              bif x1.1 == 21 then
                bif d4 then
                  some (.inl (d1, w7.1, d3, 1))
                else
                bif decide (x1.2.1 < 0) then
                  some (.inl (d1, w7.1, d3, 1))
                else
                bif decide (x1.2.1 ≥ d1.2.1) then
                  some (.inl (d1, w7.1, d3, 1))
                else
                bif inb x1.2.1 w7.1.length then
                  bif Nat.blt x1.2.1.toNat w7.1.length then
                    k205 rb d1 (setNth w7.1 x1.2.1.toNat true) d3 d4 (IntKind.i64.wrap (d5 + 1))
                  else
                    none
                else
                  none
              else
              bif decide (x1.2.1 < 0) then
                some (.inl (d1, w7.1, d3, 1))
              else
              bif decide (x1.2.1 ≥ d1.2.1) then
                some (.inl (d1, w7.1, d3, 1))
              else
              bif inb x1.2.1 w7.1.length then
                bif Nat.blt x1.2.1.toNat w7.1.length then
                  k205 rb d1 (setNth w7.1 x1.2.1.toNat true) d3 d4 (IntKind.i64.wrap (d5 + 1))
                else
                  none
              else
                none
    else
      none
  else
    some (.inr (d1, d2, d3))
theorem eb205 (rf : T.RF) (rb : T.RB) (d1 : XC) (d2 : List Bool) (d3 : List Bool) (d4 : Bool) (d5 : Int) : T.stepB rf rb 205 (d1, d2, d3, d4, d5) = b205 rf rb d1 d2 d3 d4 d5 := by kernel_rfl
theorem ob205 {d1 : XC} {d2 : List Bool} {d3 : List Bool} {d4 : Bool} {d5 : Int} {y : ((XC × List Bool × List Bool × Int) ⊕ (XC × List Bool × List Bool))} (h : b205 T.rf T.rb d1 d2 d3 d4 d5 = some y) : k205 T.rb d1 d2 d3 d4 d5 = some y := T.rb_of (κ := 205) (d := (d1, d2, d3, d4, d5)) ((eb205 T.rf T.rb d1 d2 d3 d4 d5).trans h)

/- bailmentref16.Check loop 2 -/
noncomputable def b206 (rf : T.RF) (rb : T.RB) (d1 : List Bool) (d2 : List Int) (d3 : Int) : Option ((List Bool × List Int × Int) ⊕ (List Bool × List Int)) :=
  bif decide (d3 < (((d2.length : Nat) : Int))) then
    bif inb d3 d2.length then
      (nth d2 d3.toNat).bind fun (x1 : Int) =>
      (c57 rf d1 x1).bind fun (y2 : List Bool × Bool) =>
      bif !y2.2 then
        some (.inl (y2.1, d2, 1))
      else
        k206 rb y2.1 d2 (IntKind.i64.wrap (d3 + 1))
    else
      none
  else
    some (.inr (d1, d2))
theorem eb206 (rf : T.RF) (rb : T.RB) (d1 : List Bool) (d2 : List Int) (d3 : Int) : T.stepB rf rb 206 (d1, d2, d3) = b206 rf rb d1 d2 d3 := by kernel_rfl
theorem ob206 {d1 : List Bool} {d2 : List Int} {d3 : Int} {y : ((List Bool × List Int × Int) ⊕ (List Bool × List Int))} (h : b206 T.rf T.rb d1 d2 d3 = some y) : k206 T.rb d1 d2 d3 = some y := T.rb_of (κ := 206) (d := (d1, d2, d3)) ((eb206 T.rf T.rb d1 d2 d3).trans h)

/- bailmentref16.Check loop 4 -/
noncomputable def b207 (rf : T.RF) (rb : T.RB) (d1 : XC) (d2 : List Bool) (d3 : Int) : Option ((XC × List Bool × Int) ⊕ (XC × List Bool)) :=
  bif decide (d3 < (((d1.2.2.2.1.length : Nat) : Int))) then
    bif inb d3 d1.2.2.2.1.length then
      (nth d1.2.2.2.1 d3.toNat).bind fun (x1 : Int) =>
      (c57 rf d2 x1).bind fun (y2 : List Bool × Bool) =>
      bif !y2.2 then
        some (.inl (d1, y2.1, 1))
      else
        k207 rb d1 y2.1 (IntKind.i64.wrap (d3 + 1))
    else
      none
  else
    some (.inr (d1, d2))
theorem eb207 (rf : T.RF) (rb : T.RB) (d1 : XC) (d2 : List Bool) (d3 : Int) : T.stepB rf rb 207 (d1, d2, d3) = b207 rf rb d1 d2 d3 := by kernel_rfl
theorem ob207 {d1 : XC} {d2 : List Bool} {d3 : Int} {y : ((XC × List Bool × Int) ⊕ (XC × List Bool))} (h : b207 T.rf T.rb d1 d2 d3 = some y) : k207 T.rb d1 d2 d3 = some y := T.rb_of (κ := 207) (d := (d1, d2, d3)) ((eb207 T.rf T.rb d1 d2 d3).trans h)

/- bailmentref16.Check -/
noncomputable def r51 (rf : T.RF) (rb : T.RB) (d1 : XC) : Option Int :=
  bif decide (d1.2.1 < 0) then
    some 1
  else
  bif decide (d1.2.1 > 100000) then
    some 1
  else
  bif decide (d1.2.2.1 < 0) then
    some 1
  else
  bif decide (d1.2.2.1 > 100000) then
    some 1
  else
  bif decide ((((d1.1.length : Nat) : Int)) > 200000) then
    some 1
  else
  bif inb' d1.2.1 most then
    bif inb' d1.2.1 d1.2.1.toNat then
      bif inb' d1.2.2.1 most then
        bif inb' d1.2.2.1 d1.2.2.1.toNat then
          (k205 rb d1 (List.replicate d1.2.1.toNat false) (List.replicate d1.2.2.1.toNat false) false 0).bind fun (z1 : (XC × List Bool × List Bool × Int) ⊕ (XC × List Bool × List Bool)) =>
          match z1 with
          | .inl u2 =>
            some u2.2.2.2
          | .inr w3 =>
            (k207 rb w3.1 w3.2.1 0).bind fun (z4 : (XC × List Bool × Int) ⊕ (XC × List Bool)) =>
            match z4 with
            | .inl u5 =>
              some u5.2.2
            | .inr w6 =>
              some 0
        else
          none
      else
        none
    else
      none
  else
    none
theorem er51 (rf : T.RF) (rb : T.RB) (d1 : XC) : T.stepF rf rb 51 d1 = r51 rf rb d1 := by kernel_rfl
theorem or51 {d1 : XC} {y : Int} (h : r51 T.rf T.rb d1 = some y) : c51 T.rf d1 = some y := T.rf_of (f := 51) (d := d1) ((er51 T.rf T.rb d1).trans h)

/- bailmentref16.Begin -/
noncomputable def r58 (rf : T.RF) (rb : T.RB) (d1 : XC) : Option (List Int × Bool) :=
  bif inb' d1.2.2.1 most then
    bif inb' d1.2.2.1 d1.2.2.1.toNat then
      some (List.replicate d1.2.2.1.toNat (0 : Int), true)
    else
      none
  else
    none
theorem er58 (rf : T.RF) (rb : T.RB) (d1 : XC) : T.stepF rf rb 58 d1 = r58 rf rb d1 := by kernel_rfl
theorem or58 {d1 : XC} {y : (List Int × Bool)} (h : r58 T.rf T.rb d1 = some y) : c58 T.rf d1 = some y := T.rf_of (f := 58) (d := d1) ((er58 T.rf T.rb d1).trans h)

/- bailmentref16.frame loop 0 -/
noncomputable def b209 (rf : T.RF) (rb : T.RB) (d1 : XC) (d2 : List Int) (d3 : Int) : Option ((XC × Bool) ⊕ XC) :=
  bif decide (d3 < (((d2.length : Nat) : Int))) then
    bif inb d3 d2.length then
      (nth d2 d3.toNat).bind fun (x1 : Int) =>
      (c56 rf x1).bind fun (y2 : Bool) =>
      bif !y2 then
        some (.inl (d1, false))
      else
      bif inb d3 d1.2.2.2.2.length then
        (nth d1.2.2.2.2 d3.toNat).bind fun (x3 : Int) =>
        bif x3 == 1 then
          bif inb d3 d2.length then
            (nth d2 d3.toNat).bind fun (x4 : Int) =>
            bif x4 != 0 then
              bif inb d3 d2.length then
                (nth d2 d3.toNat).bind fun (x5 : Int) =>
                bif x5 != 1 then
                  some (.inl (d1, false))
                else
                  k209 rb d1 d2 (IntKind.i64.wrap (d3 + 1))
              else
                none
            else
              k209 rb d1 d2 (IntKind.i64.wrap (d3 + 1))
          else
            none
        else
          k209 rb d1 d2 (IntKind.i64.wrap (d3 + 1))
      else
        none
    else
      none
  else
    some (.inr d1)
theorem eb209 (rf : T.RF) (rb : T.RB) (d1 : XC) (d2 : List Int) (d3 : Int) : T.stepB rf rb 209 (d1, d2, d3) = b209 rf rb d1 d2 d3 := by kernel_rfl
theorem ob209 {d1 : XC} {d2 : List Int} {d3 : Int} {y : ((XC × Bool) ⊕ XC)} (h : b209 T.rf T.rb d1 d2 d3 = some y) : k209 T.rb d1 d2 d3 = some y := T.rb_of (κ := 209) (d := (d1, d2, d3)) ((eb209 T.rf T.rb d1 d2 d3).trans h)

/- bailmentref16.frame -/
noncomputable def r60 (rf : T.RF) (rb : T.RB) (d1 : XC) (d2 : List Int) : Option Bool :=
  bif (((d2.length : Nat) : Int)) != (((d1.2.2.2.2.length : Nat) : Int)) then
    some false
  else
    (k209 rb d1 d2 0).bind fun (z1 : (XC × Bool) ⊕ XC) =>
    match z1 with
    | .inl u2 =>
      some u2.2
    | .inr w3 =>
      some true
theorem er60 (rf : T.RF) (rb : T.RB) (d1 : XC) (d2 : List Int) : T.stepF rf rb 60 (d1, d2) = r60 rf rb d1 d2 := by kernel_rfl
theorem or60 {d1 : XC} {d2 : List Int} {y : Bool} (h : r60 T.rf T.rb d1 d2 = some y) : c60 T.rf d1 d2 = some y := T.rf_of (f := 60) (d := (d1, d2)) ((er60 T.rf T.rb d1 d2).trans h)

/- bailmentref01.truth -/
noncomputable def r63 (rf : T.RF) (rb : T.RB) (d1 : Bool) : Option Int :=
  bif d1 then
    some 1
  else
    some 0
theorem er63 (rf : T.RF) (rb : T.RB) (d1 : Bool) : T.stepF rf rb 63 d1 = r63 rf rb d1 := by kernel_rfl
theorem or63 {d1 : Bool} {y : Int} (h : r63 T.rf T.rb d1 = some y) : c63 T.rf d1 = some y := T.rf_of (f := 63) (d := d1) ((er63 T.rf T.rb d1).trans h)

/- bailmentref01.over -/
noncomputable def r64 (rf : T.RF) (rb : T.RB) (d1 : Int) : Option (Int × Int) :=
  (c56 rf d1).bind fun (y1 : Bool) =>
  bif !y1 then
    some (0, 2)
  else
    some (d1, 0)
theorem er64 (rf : T.RF) (rb : T.RB) (d1 : Int) : T.stepF rf rb 64 d1 = r64 rf rb d1 := by kernel_rfl
theorem or64 {d1 : Int} {y : (Int × Int)} (h : r64 T.rf T.rb d1 = some y) : c64 T.rf d1 = some y := T.rf_of (f := 64) (d := d1) ((er64 T.rf T.rb d1).trans h)

/- bailmentref01.size -/
noncomputable def r66 (rf : T.RF) (rb : T.RB) (d1 : Int) : Option Int :=
  bif decide (d1 < 0) then
    some (IntKind.i64.wrap (0 - d1))
  else
    some d1
theorem er66 (rf : T.RF) (rb : T.RB) (d1 : Int) : T.stepF rf rb 66 d1 = r66 rf rb d1 := by kernel_rfl
theorem or66 {d1 : Int} {y : Int} (h : r66 T.rf T.rb d1 = some y) : c66 T.rf d1 = some y := T.rf_of (f := 66) (d := d1) ((er66 T.rf T.rb d1).trans h)

/- bailmentref01.parts -/
noncomputable def r65 (rf : T.RF) (rb : T.RB) (d1 : Int) (d2 : Int) : Option (Int × Int) :=
  (c66 rf d1).bind fun (y1 : Int) =>
  (c66 rf d2).bind fun (y2 : Int) =>
  bif y2 == 0 then
    none
  else
    (c66 rf d1).bind fun (y3 : Int) =>
    (c66 rf d2).bind fun (y4 : Int) =>
    bif y4 == 0 then
      none
    else
      some (IntKind.i64.wrap (Int.tdiv y1 y2), Int.tmod y3 y4)
theorem er65 (rf : T.RF) (rb : T.RB) (d1 : Int) (d2 : Int) : T.stepF rf rb 65 (d1, d2) = r65 rf rb d1 d2 := by kernel_rfl
theorem or65 {d1 : Int} {d2 : Int} {y : (Int × Int)} (h : r65 T.rf T.rb d1 d2 = some y) : c65 T.rf d1 d2 = some y := T.rf_of (f := 65) (d := (d1, d2)) ((er65 T.rf T.rb d1 d2).trans h)

/- bailmentref01.Do -/
noncomputable def r62 (rf : T.RF) (rb : T.RB) (d1 : Int) (d2 : Int) (d3 : Int) (d4 : Int) : Option (Int × Int) :=
  (c53 rf d1).bind fun (y1 : Int) =>
  bif decide (y1 < 0) then
    some (0, 1)
  else
    (c56 rf d2).bind fun (y2 : Bool) =>
    bif !y2 then
      some (0, 1)
    else
    bif decide (y1 > 1) then
      (c56 rf d3).bind fun (y3 : Bool) =>
      bif !y3 then
        some (0, 1)
      else
      bif decide (y1 > 2) then
        (c56 rf d4).bind fun (y4 : Bool) =>
        bif !y4 then
          some (0, 1)
        else
        bif d1 == 4 then
          (c63 rf (d2 == 0)).bind fun (y5 : Int) =>
          some (y5, 0)
        else
        bif d1 == 6 then
          bif d2 != 0 then
            (c63 rf (d3 != 0)).bind fun (y6 : Int) =>
            some (y6, 0)
          else
            (c63 rf false).bind fun (y7 : Int) =>
            some (y7, 0)
        else
        bif d1 == 7 then
          bif d2 != 0 then
            (c63 rf true).bind fun (y8 : Int) =>
            some (y8, 0)
          else
            (c63 rf (d3 != 0)).bind fun (y9 : Int) =>
            some (y9, 0)
        else
        bif d1 == 8 then
          (c63 rf (!((d2 != 0) == (d3 != 0)))).bind fun (y10 : Int) =>
          some (y10, 0)
        else
        bif d1 == 9 then
          bif d2 == 0 then
            (c63 rf true).bind fun (y11 : Int) =>
            some (y11, 0)
          else
            (c63 rf (d3 != 0)).bind fun (y12 : Int) =>
            some (y12, 0)
        else
        bif d1 == 10 then
          (c63 rf (d2 == d3)).bind fun (y13 : Int) =>
          some (y13, 0)
        else
        bif d1 == 11 then
          (c63 rf (d2 != d3)).bind fun (y14 : Int) =>
          some (y14, 0)
        else
        bif d1 == 12 then
          (c63 rf (decide (d2 < d3))).bind fun (y15 : Int) =>
          some (y15, 0)
        else
        bif d1 == 13 then
          (c63 rf (decide (d2 ≤ d3))).bind fun (y16 : Int) =>
          some (y16, 0)
        else
        bif d1 == 5 then
          (c64 rf (IntKind.i64.wrap (0 - d2))).bind fun (y17 : Int × Int) =>
          some y17
        else
        bif d1 == 14 then
          (c64 rf (IntKind.i64.wrap (d2 + d3))).bind fun (y18 : Int × Int) =>
          some y18
        else
        bif d1 == 15 then
          (c64 rf (IntKind.i64.wrap (d2 - d3))).bind fun (y19 : Int × Int) =>
          some y19
        else
        bif d1 == 16 then
          (c64 rf (IntKind.i64.wrap (d2 * d3))).bind fun (y20 : Int × Int) =>
          some y20
        else
        bif d1 == 26 then
          bif d2 != 0 then
            some (d3, 0)
          else
            some (d4, 0)
        else
        bif d3 == 0 then
          some (0, 3)
        else
          (c65 rf d2 d3).bind fun (y21 : Int × Int) =>
          bif d1 == 18 then
            bif decide (d2 < 0) then
              some (IntKind.i64.wrap (0 - y21.2), 0)
            else
              some (y21.2, 0)
          else
          bif !((decide (d2 < 0)) == (decide (d3 < 0))) then
            (c64 rf (IntKind.i64.wrap (0 - y21.1))).bind fun (y22 : Int × Int) =>
            some y22
          else
            (c64 rf y21.1).bind fun (y23 : Int × Int) =>
            some y23
      else
      bif d1 == 4 then
        (c63 rf (d2 == 0)).bind fun (y24 : Int) =>
        some (y24, 0)
      else
      bif d1 == 6 then
        bif d2 != 0 then
          (c63 rf (d3 != 0)).bind fun (y25 : Int) =>
          some (y25, 0)
        else
          (c63 rf false).bind fun (y26 : Int) =>
          some (y26, 0)
      else
      bif d1 == 7 then
        bif d2 != 0 then
          (c63 rf true).bind fun (y27 : Int) =>
          some (y27, 0)
        else
          (c63 rf (d3 != 0)).bind fun (y28 : Int) =>
          some (y28, 0)
      else
      bif d1 == 8 then
        (c63 rf (!((d2 != 0) == (d3 != 0)))).bind fun (y29 : Int) =>
        some (y29, 0)
      else
      bif d1 == 9 then
        bif d2 == 0 then
          (c63 rf true).bind fun (y30 : Int) =>
          some (y30, 0)
        else
          (c63 rf (d3 != 0)).bind fun (y31 : Int) =>
          some (y31, 0)
      else
      bif d1 == 10 then
        (c63 rf (d2 == d3)).bind fun (y32 : Int) =>
        some (y32, 0)
      else
      bif d1 == 11 then
        (c63 rf (d2 != d3)).bind fun (y33 : Int) =>
        some (y33, 0)
      else
      bif d1 == 12 then
        (c63 rf (decide (d2 < d3))).bind fun (y34 : Int) =>
        some (y34, 0)
      else
      bif d1 == 13 then
        (c63 rf (decide (d2 ≤ d3))).bind fun (y35 : Int) =>
        some (y35, 0)
      else
      bif d1 == 5 then
        (c64 rf (IntKind.i64.wrap (0 - d2))).bind fun (y36 : Int × Int) =>
        some y36
      else
      bif d1 == 14 then
        (c64 rf (IntKind.i64.wrap (d2 + d3))).bind fun (y37 : Int × Int) =>
        some y37
      else
      bif d1 == 15 then
        (c64 rf (IntKind.i64.wrap (d2 - d3))).bind fun (y38 : Int × Int) =>
        some y38
      else
      bif d1 == 16 then
        (c64 rf (IntKind.i64.wrap (d2 * d3))).bind fun (y39 : Int × Int) =>
        some y39
      else
      bif d1 == 26 then
        bif d2 != 0 then
          some (d3, 0)
        else
          some (d4, 0)
      else
      bif d3 == 0 then
        some (0, 3)
      else
        (c65 rf d2 d3).bind fun (y40 : Int × Int) =>
        bif d1 == 18 then
          bif decide (d2 < 0) then
            some (IntKind.i64.wrap (0 - y40.2), 0)
          else
            some (y40.2, 0)
        else
        bif !((decide (d2 < 0)) == (decide (d3 < 0))) then
          (c64 rf (IntKind.i64.wrap (0 - y40.1))).bind fun (y41 : Int × Int) =>
          some y41
        else
          (c64 rf y40.1).bind fun (y42 : Int × Int) =>
          some y42
    else
    bif decide (y1 > 2) then
      (c56 rf d4).bind fun (y43 : Bool) =>
      bif !y43 then
        some (0, 1)
      else
      bif d1 == 4 then
        (c63 rf (d2 == 0)).bind fun (y44 : Int) =>
        some (y44, 0)
      else
      bif d1 == 6 then
        bif d2 != 0 then
          (c63 rf (d3 != 0)).bind fun (y45 : Int) =>
          some (y45, 0)
        else
          (c63 rf false).bind fun (y46 : Int) =>
          some (y46, 0)
      else
      bif d1 == 7 then
        bif d2 != 0 then
          (c63 rf true).bind fun (y47 : Int) =>
          some (y47, 0)
        else
          (c63 rf (d3 != 0)).bind fun (y48 : Int) =>
          some (y48, 0)
      else
      bif d1 == 8 then
        (c63 rf (!((d2 != 0) == (d3 != 0)))).bind fun (y49 : Int) =>
        some (y49, 0)
      else
      bif d1 == 9 then
        bif d2 == 0 then
          (c63 rf true).bind fun (y50 : Int) =>
          some (y50, 0)
        else
          (c63 rf (d3 != 0)).bind fun (y51 : Int) =>
          some (y51, 0)
      else
      bif d1 == 10 then
        (c63 rf (d2 == d3)).bind fun (y52 : Int) =>
        some (y52, 0)
      else
      bif d1 == 11 then
        (c63 rf (d2 != d3)).bind fun (y53 : Int) =>
        some (y53, 0)
      else
      bif d1 == 12 then
        (c63 rf (decide (d2 < d3))).bind fun (y54 : Int) =>
        some (y54, 0)
      else
      bif d1 == 13 then
        (c63 rf (decide (d2 ≤ d3))).bind fun (y55 : Int) =>
        some (y55, 0)
      else
      bif d1 == 5 then
        (c64 rf (IntKind.i64.wrap (0 - d2))).bind fun (y56 : Int × Int) =>
        some y56
      else
      bif d1 == 14 then
        (c64 rf (IntKind.i64.wrap (d2 + d3))).bind fun (y57 : Int × Int) =>
        some y57
      else
      bif d1 == 15 then
        (c64 rf (IntKind.i64.wrap (d2 - d3))).bind fun (y58 : Int × Int) =>
        some y58
      else
      bif d1 == 16 then
        (c64 rf (IntKind.i64.wrap (d2 * d3))).bind fun (y59 : Int × Int) =>
        some y59
      else
      bif d1 == 26 then
        bif d2 != 0 then
          some (d3, 0)
        else
          some (d4, 0)
      else
      bif d3 == 0 then
        some (0, 3)
      else
        (c65 rf d2 d3).bind fun (y60 : Int × Int) =>
        bif d1 == 18 then
          bif decide (d2 < 0) then
            some (IntKind.i64.wrap (0 - y60.2), 0)
          else
            some (y60.2, 0)
        else
        bif !((decide (d2 < 0)) == (decide (d3 < 0))) then
          (c64 rf (IntKind.i64.wrap (0 - y60.1))).bind fun (y61 : Int × Int) =>
          some y61
        else
          (c64 rf y60.1).bind fun (y62 : Int × Int) =>
          some y62
    else
    bif d1 == 4 then
      (c63 rf (d2 == 0)).bind fun (y63 : Int) =>
      some (y63, 0)
    else
    bif d1 == 6 then
      bif d2 != 0 then
        (c63 rf (d3 != 0)).bind fun (y64 : Int) =>
        some (y64, 0)
      else
        (c63 rf false).bind fun (y65 : Int) =>
        some (y65, 0)
    else
    bif d1 == 7 then
      bif d2 != 0 then
        (c63 rf true).bind fun (y66 : Int) =>
        some (y66, 0)
      else
        (c63 rf (d3 != 0)).bind fun (y67 : Int) =>
        some (y67, 0)
    else
    bif d1 == 8 then
      (c63 rf (!((d2 != 0) == (d3 != 0)))).bind fun (y68 : Int) =>
      some (y68, 0)
    else
    bif d1 == 9 then
      bif d2 == 0 then
        (c63 rf true).bind fun (y69 : Int) =>
        some (y69, 0)
      else
        (c63 rf (d3 != 0)).bind fun (y70 : Int) =>
        some (y70, 0)
    else
    bif d1 == 10 then
      (c63 rf (d2 == d3)).bind fun (y71 : Int) =>
      some (y71, 0)
    else
    bif d1 == 11 then
      (c63 rf (d2 != d3)).bind fun (y72 : Int) =>
      some (y72, 0)
    else
    bif d1 == 12 then
      (c63 rf (decide (d2 < d3))).bind fun (y73 : Int) =>
      some (y73, 0)
    else
    bif d1 == 13 then
      (c63 rf (decide (d2 ≤ d3))).bind fun (y74 : Int) =>
      some (y74, 0)
    else
    bif d1 == 5 then
      (c64 rf (IntKind.i64.wrap (0 - d2))).bind fun (y75 : Int × Int) =>
      some y75
    else
    bif d1 == 14 then
      (c64 rf (IntKind.i64.wrap (d2 + d3))).bind fun (y76 : Int × Int) =>
      some y76
    else
    bif d1 == 15 then
      (c64 rf (IntKind.i64.wrap (d2 - d3))).bind fun (y77 : Int × Int) =>
      some y77
    else
    bif d1 == 16 then
      (c64 rf (IntKind.i64.wrap (d2 * d3))).bind fun (y78 : Int × Int) =>
      some y78
    else
    bif d1 == 26 then
      bif d2 != 0 then
        some (d3, 0)
      else
        some (d4, 0)
    else
    bif d3 == 0 then
      some (0, 3)
    else
      (c65 rf d2 d3).bind fun (y79 : Int × Int) =>
      bif d1 == 18 then
        bif decide (d2 < 0) then
          some (IntKind.i64.wrap (0 - y79.2), 0)
        else
          some (y79.2, 0)
      else
      bif !((decide (d2 < 0)) == (decide (d3 < 0))) then
        (c64 rf (IntKind.i64.wrap (0 - y79.1))).bind fun (y80 : Int × Int) =>
        some y80
      else
        (c64 rf y79.1).bind fun (y81 : Int × Int) =>
        some y81
theorem er62 (rf : T.RF) (rb : T.RB) (d1 : Int) (d2 : Int) (d3 : Int) (d4 : Int) : T.stepF rf rb 62 (d1, d2, d3, d4) = r62 rf rb d1 d2 d3 d4 := by kernel_rfl
theorem or62 {d1 : Int} {d2 : Int} {d3 : Int} {d4 : Int} {y : (Int × Int)} (h : r62 T.rf T.rb d1 d2 d3 d4 = some y) : c62 T.rf d1 d2 d3 d4 = some y := T.rf_of (f := 62) (d := (d1, d2, d3, d4)) ((er62 T.rf T.rb d1 d2 d3 d4).trans h)

/- bailmentref16.made tail 13 -/
noncomputable def b213 (rf : T.RF) (rb : T.RB) (d1 : List Int) (d2 : XI) : Option (List Int × XI × Int × Int) :=
  (c52 rf d2).bind fun (y1 : List Int × Bool) =>
  (k214 rb d1 y1.1 [0, 0, 0] 0).bind fun (z2 : List Int × List Int × List Int) =>
  bif inb 0 z2.2.2.length then
    (nth z2.2.2 0).bind fun (x3 : Int) =>
    bif inb 1 z2.2.2.length then
      (nth z2.2.2 1).bind fun (x4 : Int) =>
      bif inb 2 z2.2.2.length then
        (nth z2.2.2 2).bind fun (x5 : Int) =>
        (c62 rf d2.1 x3 x4 x5).bind fun (y6 : Int × Int) =>
        some (z2.1, d2, y6)
      else
        none
    else
      none
  else
    none
theorem eb213 (rf : T.RF) (rb : T.RB) (d1 : List Int) (d2 : XI) : T.stepB rf rb 213 (d1, d2) = b213 rf rb d1 d2 := by kernel_rfl
theorem ob213 {d1 : List Int} {d2 : XI} {y : (List Int × XI × Int × Int)} (h : b213 T.rf T.rb d1 d2 = some y) : k213 T.rb d1 d2 = some y := T.rb_of (κ := 213) (d := (d1, d2)) ((eb213 T.rf T.rb d1 d2).trans h)

/- bailmentref16.made loop 1 -/
noncomputable def b214 (rf : T.RF) (rb : T.RB) (d1 : List Int) (d2 : List Int) (d3 : List Int) (d4 : Int) : Option (List Int × List Int × List Int) :=
  bif decide (d4 < (((d2.length : Nat) : Int))) then
    bif inb d4 d2.length then
      (nth d2 d4.toNat).bind fun (x1 : Int) =>
      bif inb x1 d1.length then
        (nth d1 x1.toNat).bind fun (x2 : Int) =>
        bif inb d4 d3.length then
          bif Nat.blt d4.toNat d3.length then
            k214 rb d1 d2 (setNth d3 d4.toNat x2) (IntKind.i64.wrap (d4 + 1))
          else
            none
        else
          none
      else
        none
    else
      none
  else
    some (d1, d2, d3)
theorem eb214 (rf : T.RF) (rb : T.RB) (d1 : List Int) (d2 : List Int) (d3 : List Int) (d4 : Int) : T.stepB rf rb 214 (d1, d2, d3, d4) = b214 rf rb d1 d2 d3 d4 := by kernel_rfl
theorem ob214 {d1 : List Int} {d2 : List Int} {d3 : List Int} {d4 : Int} {y : (List Int × List Int × List Int)} (h : b214 T.rf T.rb d1 d2 d3 d4 = some y) : k214 T.rb d1 d2 d3 d4 = some y := T.rb_of (κ := 214) (d := (d1, d2, d3, d4)) ((eb214 T.rf T.rb d1 d2 d3 d4).trans h)

/- bailmentref16.made -/
noncomputable def r61 (rf : T.RF) (rb : T.RB) (d1 : List Int) (d2 : XI) (d3 : List Int) (d4 : List Int × Bool) : Option (List Int × Int × Int) :=
  bif d2.1 == 3 then
    bif inb d2.2.2.2.2.2 d3.length then
      (nth d3 d2.2.2.2.2.2.toNat).bind fun (x1 : Int) =>
      some (d1, x1, 0)
    else
      none
  else
  bif d2.1 == 1 then
    bif d2.1 == 1 then
      some (d1, d2.2.2.2.2.2, 0)
    else
    bif d2.1 == 21 then
      bif inb d2.2.2.2.2.2 d4.1.length then
        (nth d4.1 d2.2.2.2.2.2.toNat).bind fun (x2 : Int) =>
        some (d1, x2, 0)
      else
        none
    else
    bif d2.1 == 19 then
      bif d4.2 then
        bif inb d2.2.2.1 d1.length then
          (nth d1 d2.2.2.1.toNat).bind fun (x3 : Int) =>
          some (d1, x3, 0)
        else
          none
      else
      bif inb d2.2.2.2.1 d1.length then
        (nth d1 d2.2.2.2.1.toNat).bind fun (x4 : Int) =>
        some (d1, x4, 0)
      else
        none
    else
      (k213 rb d1 d2).bind fun (z5 : List Int × XI × Int × Int) =>
      some (z5.1, z5.2.2)
  else
  bif d2.1 == 2 then
    some (d1, d2.2.2.2.2.2, 0)
  else
  bif d2.1 == 21 then
    bif inb d2.2.2.2.2.2 d4.1.length then
      (nth d4.1 d2.2.2.2.2.2.toNat).bind fun (x6 : Int) =>
      some (d1, x6, 0)
    else
      none
  else
  bif d2.1 == 19 then
    bif d4.2 then
      bif inb d2.2.2.1 d1.length then
        (nth d1 d2.2.2.1.toNat).bind fun (x7 : Int) =>
        some (d1, x7, 0)
      else
        none
    else
    bif inb d2.2.2.2.1 d1.length then
      (nth d1 d2.2.2.2.1.toNat).bind fun (x8 : Int) =>
      some (d1, x8, 0)
    else
      none
  else
    (k213 rb d1 d2).bind fun (z9 : List Int × XI × Int × Int) =>
    some (z9.1, z9.2.2)
theorem er61 (rf : T.RF) (rb : T.RB) (d1 : List Int) (d2 : XI) (d3 : List Int) (d4 : List Int × Bool) : T.stepF rf rb 61 (d1, d2, d3, d4) = r61 rf rb d1 d2 d3 d4 := by kernel_rfl
theorem or61 {d1 : List Int} {d2 : XI} {d3 : List Int} {d4 : List Int × Bool} {y : (List Int × Int × Int)} (h : r61 T.rf T.rb d1 d2 d3 d4 = some y) : c61 T.rf d1 d2 d3 d4 = some y := T.rf_of (f := 61) (d := (d1, d2, d3, d4)) ((er61 T.rf T.rb d1 d2 d3 d4).trans h)

/- bailmentref16.Step loop 0 -/
noncomputable def b219 (rf : T.RF) (rb : T.RB) (d1 : XC) (d2 : List Int × Bool) (d3 : List Int) (d4 : Bool) (d5 : List Int) (d6 : List Int) (d7 : Int) (d8 : Int) : Option (XC × (List Int × Bool) × List Int × Bool × List Int × Int) :=
  bif decide (d8 < (((d1.1.length : Nat) : Int))) then
    bif inb d8 d1.1.length then
      (nth d1.1 d8.toNat).bind fun (x1 : XI) =>
      bif x1.1 == 30 then
        bif inb x1.2.2.1 d3.length then
          (nth d3 x1.2.2.1.toNat).bind fun (x2 : Int) =>
          bif inb x1.2.2.2.2.2 d5.length then
            bif Nat.blt x1.2.2.2.2.2.toNat d5.length then
              k219 rb d1 d2 d3 d4 (setNth d5 x1.2.2.2.2.2.toNat x2) d6 d7 (IntKind.i64.wrap (d8 + 1))
            else
              none
          else
            none
        else
          none
      else
        (c61 rf d3 x1 d6 d2).bind fun (y3 : List Int × Int × Int) =>
        bif inb x1.2.1 y3.1.length then
          bif Nat.blt x1.2.1.toNat y3.1.length then
            bif y3.2.2 != 0 then
              bif d7 == 0 then
                k219 rb d1 d2 (setNth y3.1 x1.2.1.toNat y3.2.1) d4 d5 d6 y3.2.2 (IntKind.i64.wrap (d8 + 1))
              else
              bif decide (y3.2.2 < d7) then
                k219 rb d1 d2 (setNth y3.1 x1.2.1.toNat y3.2.1) d4 d5 d6 y3.2.2 (IntKind.i64.wrap (d8 + 1))
              else
                k219 rb d1 d2 (setNth y3.1 x1.2.1.toNat y3.2.1) d4 d5 d6 d7 (IntKind.i64.wrap (d8 + 1))
            else
              k219 rb d1 d2 (setNth y3.1 x1.2.1.toNat y3.2.1) d4 d5 d6 d7 (IntKind.i64.wrap (d8 + 1))
          else
            none
        else
          none
    else
      none
  else
    some (d1, d2, d3, d4, d5, d7)
theorem eb219 (rf : T.RF) (rb : T.RB) (d1 : XC) (d2 : List Int × Bool) (d3 : List Int) (d4 : Bool) (d5 : List Int) (d6 : List Int) (d7 : Int) (d8 : Int) : T.stepB rf rb 219 (d1, d2, d3, d4, d5, d6, d7, d8) = b219 rf rb d1 d2 d3 d4 d5 d6 d7 d8 := by kernel_rfl
theorem ob219 {d1 : XC} {d2 : List Int × Bool} {d3 : List Int} {d4 : Bool} {d5 : List Int} {d6 : List Int} {d7 : Int} {d8 : Int} {y : (XC × (List Int × Bool) × List Int × Bool × List Int × Int)} (h : b219 T.rf T.rb d1 d2 d3 d4 d5 d6 d7 d8 = some y) : k219 T.rb d1 d2 d3 d4 d5 d6 d7 d8 = some y := T.rb_of (κ := 219) (d := (d1, d2, d3, d4, d5, d6, d7, d8)) ((eb219 T.rf T.rb d1 d2 d3 d4 d5 d6 d7 d8).trans h)

/- bailmentref16.Step loop 2 -/
noncomputable def b220 (rf : T.RF) (rb : T.RB) (d1 : XC) (d2 : List Int) (d3 : List Int) (d4 : Int) : Option (XC × List Int × List Int) :=
  bif decide (d4 < (((d1.2.2.2.1.length : Nat) : Int))) then
    bif inb d4 d1.2.2.2.1.length then
      (nth d1.2.2.2.1 d4.toNat).bind fun (x1 : Int) =>
      bif inb x1 d2.length then
        (nth d2 x1.toNat).bind fun (x2 : Int) =>
        bif (Nat.ble (d3.length + 1) most) && true then
          k220 rb d1 d2 (d3 ++ [x2]) (IntKind.i64.wrap (d4 + 1))
        else
          none
      else
        none
    else
      none
  else
    some (d1, d2, d3)
theorem eb220 (rf : T.RF) (rb : T.RB) (d1 : XC) (d2 : List Int) (d3 : List Int) (d4 : Int) : T.stepB rf rb 220 (d1, d2, d3, d4) = b220 rf rb d1 d2 d3 d4 := by kernel_rfl
theorem ob220 {d1 : XC} {d2 : List Int} {d3 : List Int} {d4 : Int} {y : (XC × List Int × List Int)} (h : b220 T.rf T.rb d1 d2 d3 d4 = some y) : k220 T.rb d1 d2 d3 d4 = some y := T.rb_of (κ := 220) (d := (d1, d2, d3, d4)) ((eb220 T.rf T.rb d1 d2 d3 d4).trans h)

/- bailmentref16.Step -/
noncomputable def r59 (rf : T.RF) (rb : T.RB) (d1 : XC) (d2 : List Int × Bool) (d3 : List Int) : Option (List Int × (List Int × Bool) × Int) :=
  (c60 rf d1 d3).bind fun (y1 : Bool) =>
  bif !y1 then
    some ([], d2, 17)
  else
  bif inb' d1.2.1 most then
    bif inb' d1.2.1 d1.2.1.toNat then
      bif Nat.ble d2.1.length most then
        (k219 rb d1 d2 (List.replicate d1.2.1.toNat (0 : Int)) false d2.1 d3 0 0).bind fun (z2 : XC × (List Int × Bool) × List Int × Bool × List Int × Int) =>
        bif z2.2.2.2.2.2 != 0 then
          some ([], z2.2.1, z2.2.2.2.2.2)
        else
          (k220 rb z2.1 z2.2.2.1 [] 0).bind fun (z3 : XC × List Int × List Int) =>
          some (z3.2.2, (z2.2.2.2.2.1, z2.2.2.2.1), 0)
      else
        none
    else
      none
  else
    none
theorem er59 (rf : T.RF) (rb : T.RB) (d1 : XC) (d2 : List Int × Bool) (d3 : List Int) : T.stepF rf rb 59 (d1, d2, d3) = r59 rf rb d1 d2 d3 := by kernel_rfl
theorem or59 {d1 : XC} {d2 : List Int × Bool} {d3 : List Int} {y : (List Int × (List Int × Bool) × Int)} (h : r59 T.rf T.rb d1 d2 d3 = some y) : c59 T.rf d1 d2 d3 = some y := T.rf_of (f := 59) (d := (d1, d2, d3)) ((er59 T.rf T.rb d1 d2 d3).trans h)

/- bailmentref16.Run loop 0 -/
noncomputable def b222q (rf : T.RF) (rb : T.RB) (d1 : XC) (d2 : List Int × Bool) (d3 : List (List Int)) (d4 : List (List Int)) (d5 : Int) : Option ((XC × (List Int × Bool) × List (List Int) × Int) ⊕ (XC × (List Int × Bool) × List (List Int))) :=
  bif decide (d5 < (((d4.length : Nat) : Int))) then
    bif inb d5 d4.length then
      (nth d4 d5.toNat).bind fun (x1 : List Int) =>
      agN 1 (
        (c59 rf d1 d2 x1).bind fun (y2 : List Int × (List Int × Bool) × Int) =>
        (k223 rb d2 d3 y2.1 y2.2.1 y2.2.2).bind fun (z3 : ((List Int × Bool) × List (List Int) × List Int × (List Int × Bool) × Int) ⊕ ((List Int × Bool) × (List Int × Bool) × List (List Int))) =>
        match z3 with
        | .inl u4 =>
          some (.inl (d1, u4.1, u4.2.1, u4.2.2.2.2))
        | .inr w5 =>
          k222 rb d1 w5.1 w5.2.2 d4 (IntKind.i64.wrap (d5 + 1))
      )
    else
      none
  else
    some (.inr (d1, d2, d3))
noncomputable def b222 (rf : T.RF) (rb : T.RB) (d1 : XC) (d2 : List Int × Bool) (d3 : List (List Int)) (d4 : List (List Int)) (d5 : Int) : Option ((XC × (List Int × Bool) × List (List Int) × Int) ⊕ (XC × (List Int × Bool) × List (List Int))) :=
  bif decide (d5 < (((d4.length : Nat) : Int))) then
    bif inb d5 d4.length then
      (nth d4 d5.toNat).bind fun (x1 : List Int) =>
      (c59 rf d1 d2 x1).bind fun (y2 : List Int × (List Int × Bool) × Int) =>
      (k223 rb d2 d3 y2.1 y2.2.1 y2.2.2).bind fun (z3 : ((List Int × Bool) × List (List Int) × List Int × (List Int × Bool) × Int) ⊕ ((List Int × Bool) × (List Int × Bool) × List (List Int))) =>
      match z3 with
      | .inl u4 =>
        some (.inl (d1, u4.1, u4.2.1, u4.2.2.2.2))
      | .inr w5 =>
        k222 rb d1 w5.1 w5.2.2 d4 (IntKind.i64.wrap (d5 + 1))
    else
      none
  else
    some (.inr (d1, d2, d3))
theorem eb222 (rf : T.RF) (rb : T.RB) (d1 : XC) (d2 : List Int × Bool) (d3 : List (List Int)) (d4 : List (List Int)) (d5 : Int) : T.stepB rf rb 222 (d1, d2, d3, d4, d5) = b222q rf rb d1 d2 d3 d4 d5 := by kernel_rfl
theorem sb222 (rf : T.RF) (rb : T.RB) (d1 : XC) (d2 : List Int × Bool) (d3 : List (List Int)) (d4 : List (List Int)) (d5 : Int) : b222q rf rb d1 d2 d3 d4 d5 = b222 rf rb d1 d2 d3 d4 d5 := by
  unfold b222q b222; simp only [agN_eq, agree_self, agree_swap]
theorem ob222 {d1 : XC} {d2 : List Int × Bool} {d3 : List (List Int)} {d4 : List (List Int)} {d5 : Int} {y : ((XC × (List Int × Bool) × List (List Int) × Int) ⊕ (XC × (List Int × Bool) × List (List Int)))} (h : b222 T.rf T.rb d1 d2 d3 d4 d5 = some y) : k222 T.rb d1 d2 d3 d4 d5 = some y := T.rb_of (κ := 222) (d := (d1, d2, d3, d4, d5)) (((eb222 T.rf T.rb d1 d2 d3 d4 d5).trans (sb222 T.rf T.rb d1 d2 d3 d4 d5)).trans h)

/- bailmentref16.Run tail 10 -/
noncomputable def b223 (rf : T.RF) (rb : T.RB) (d1 : List Int × Bool) (d2 : List (List Int)) (d3 : List Int) (d4 : List Int × Bool) (d5 : Int) : Option (((List Int × Bool) × List (List Int) × List Int × (List Int × Bool) × Int) ⊕ ((List Int × Bool) × (List Int × Bool) × List (List Int))) :=
  bif d5 != 0 then
    some (.inl (d1, d2, d3, d4, d5))
  else
  bif (Nat.ble (d2.length + 1) most) && true then
    some (.inr (d4, d4, d2 ++ [d3]))
  else
    none
theorem eb223 (rf : T.RF) (rb : T.RB) (d1 : List Int × Bool) (d2 : List (List Int)) (d3 : List Int) (d4 : List Int × Bool) (d5 : Int) : T.stepB rf rb 223 (d1, d2, d3, d4, d5) = b223 rf rb d1 d2 d3 d4 d5 := by kernel_rfl
theorem ob223 {d1 : List Int × Bool} {d2 : List (List Int)} {d3 : List Int} {d4 : List Int × Bool} {d5 : Int} {y : (((List Int × Bool) × List (List Int) × List Int × (List Int × Bool) × Int) ⊕ ((List Int × Bool) × (List Int × Bool) × List (List Int)))} (h : b223 T.rf T.rb d1 d2 d3 d4 d5 = some y) : k223 T.rb d1 d2 d3 d4 d5 = some y := T.rb_of (κ := 223) (d := (d1, d2, d3, d4, d5)) ((eb223 T.rf T.rb d1 d2 d3 d4 d5).trans h)

/- bailmentref16.Run -/
noncomputable def r50 (rf : T.RF) (rb : T.RB) (d1 : XC) (d2 : List (List Int)) : Option (List (List Int) × Int) :=
  (c51 rf d1).bind fun (y1 : Int) =>
  bif y1 != 0 then
    some ([], y1)
  else
    (c58 rf d1).bind fun (y2 : List Int × Bool) =>
    (k222 rb d1 y2 [] d2 0).bind fun (z3 : (XC × (List Int × Bool) × List (List Int) × Int) ⊕ (XC × (List Int × Bool) × List (List Int))) =>
    match z3 with
    | .inl u4 =>
      some u4.2.2
    | .inr w5 =>
      some (w5.2.2, 0)
theorem er50 (rf : T.RF) (rb : T.RB) (d1 : XC) (d2 : List (List Int)) : T.stepF rf rb 50 (d1, d2) = r50 rf rb d1 d2 := by kernel_rfl
theorem or50 {d1 : XC} {d2 : List (List Int)} {y : (List (List Int) × Int)} (h : r50 T.rf T.rb d1 d2 = some y) : c50 T.rf d1 d2 = some y := T.rf_of (f := 50) (d := (d1, d2)) ((er50 T.rf T.rb d1 d2).trans h)

end Go.Proofs.Ytanomapnincmoaa.R
