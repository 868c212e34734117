/-
  OUR OWN, PRINTED BY A PROGRAM OF OURS (table2.py): the table of the functions, and what each comes to.
-/
import Derived.Test.YtcdjidfdjlejdaaBmRun
import Derived.Test.YtcdjidfdjlejdaaProg
import Derived.KernelRfl
namespace Go.Proofs.Ytcdjidfdjlejdaa.R
open Go Go.Bm Go.Proofs
set_option linter.unusedVariables false
set_option linter.unusedSimpArgs false
set_option maxRecDepth 100000

abbrev XO : Type := Int × Int × Int × Int × Int
abbrev XOc : CT := (.prod (.int .i64) (.prod (.int .i64) (.prod (.int .i64) (.prod (.int .i64) (.int .i64)))))
abbrev XT : Type := List XO × List Int × List Int
abbrev XTc : CT := (.prod (.list XOc) (.prod (.list (.int .i64)) (.list (.int .i64))))
noncomputable def tabs : Tabs := {
  tabL := [(3, .leaf (.int .i64 0)),
  (4, .leaf (.bool false)),
  (9, .leaf (.str [])),
  (21, .leaf (.int .i32 0)),
  (22, .slice XOc 54),
  (23, .slice (.int .i64) 3),
  (25, .struct [(0, 1, false), (1, 1, false), (2, 1, false)] [.nils, .nils, .nils]),
  (28, .slice XOc 56),
  (30, .struct [(0, 1, false), (1, 1, false), (2, 1, false)] [.nils, .nils, .nils]),
  (32, .leaf (.int .i64 0)),
  (46, .slice (.list (.int .i64)) 23),
  (54, .struct [(0, 1, false), (1, 1, false), (2, 1, false), (3, 1, false), (4, 1, false)] [.int .i64 0, .int .i64 0, .int .i64 0, .int .i64 0, .int .i64 0]),
  (56, .struct [(0, 1, false), (1, 1, false), (2, 1, false), (3, 1, false), (4, 1, false)] [.int .i64 0, .int .i64 0, .int .i64 0, .int .i64 0, .int .i64 0]),
  (58, .slice (.int .i64) 3),
  (61, .leaf (.nilp)),
  (65, .leaf (.nilp)),
  (66, .slice .unit 65),
  (71, .slice (.prod .str (.prod (.int .i64) (.list (.prod (.int .i64) (.prod (.int .i64) (.prod (.int .i64) (.prod (.int .i64) (.prod (.int .i64) .str)))))))) 75),
  (73, .slice (.prod (.int .i64) (.prod (.int .i64) (.prod (.int .i64) (.prod (.int .i64) (.prod (.int .i64) .str))))) 128),
  (75, .struct [(0, 1, false), (1, 1, false), (2, 1, false)] [.str [], .int .i64 0, .nils]),
  (91, .slice .bool 4),
  (93, .leaf (.int .u64 0)),
  (106, .leaf (.int .u64 0))]
  eqtL := [54]
  keysL := [(3, [0]), (4, [62]), (5, [73]), (6, [74]), (7, [75]), (8, [1]), (9, [2]), (10, [3]), (11, [4]), (12, [46]), (13, [35]), (14, [56]), (15, [37]), (16, [59]), (17, [58]), (18, [38]), (19, [60]), (20, [42]), (21, [61]), (22, [63]), (23, [64]), (24, [72]), (25, [55]), (26, [76]), (27, [5]), (28, [22]), (29, [26]), (30, [32]), (31, [47]), (32, [54]), (33, [36]), (34, [57]), (35, [14, 18, 39]), (36, [41]), (37, [43]), (38, [65]), (39, [66]), (40, [49]), (41, [8]), (42, [9]), (43, [20]), (44, [6]), (45, [21]), (46, [23]), (47, [25]), (48, [29]), (49, [33]), (50, [48]), (51, [15, 19, 24, 40]), (52, [44]), (53, [52]), (54, [67]), (55, [50]), (56, [13]), (57, [10]), (58, [11]), (59, [16]), (60, [17]), (61, [7]), (62, [51]), (63, [53]), (65, [45]), (66, [68]), (67, [69]), (68, [70]), (69, [12]), (70, [71]), (87, [28]), (88, [30]), (89, [31]), (90, [34]), (91, [27])]
  mkrL := [46]
  mtL := [(61, [("Len", (87, some (58, 0))), ("Less", (88, some (58, 0))), ("Pop", (90, none)), ("Push", (91, none)), ("Swap", (89, some (58, 0)))])]
  kinL := [⟨[], [.agg [.pl XTc]]⟩,
  ⟨[], [.agg [.pl XTc]]⟩,
  ⟨[], []⟩,
  ⟨[], [.agg [.pl XTc]]⟩,
  ⟨[], [.agg [.pl XTc]]⟩,
  ⟨[], [.agg [.pl XTc]]⟩,
  ⟨[(true, .box [.pl XTc])], [.one (.pl (.list XOc)), .one (.fn 41 [] [some 0])]⟩,
  ⟨[(true, .box [.pl XTc])], [.one (.pl (.list XOc)), .one (.fn 41 [] [some 0])]⟩,
  ⟨[(true, .box [.pl XTc])], [.agg [.pl XOc], .one (.ptr 0 0)]⟩,
  ⟨[], [.agg [.pl XTc], .agg [.pl XOc]]⟩,
  ⟨[], [.agg [.pl XOc]]⟩,
  ⟨[], [.one (.pl (.int .i64))]⟩,
  ⟨[], [.one (.pl (.int .i64))]⟩,
  ⟨[(true, .box [.pl XTc])], [.one (.pl (.int .i64)), .one (.ptr 0 0)]⟩,
  ⟨[], [.one (.pl (.list (.int .i64))), .one (.fn 59 [] [])]⟩,
  ⟨[], [.one (.pl (.list (.int .i64))), .one (.fn 59 [] [])]⟩,
  ⟨[], [.one (.pl (.int .i64))]⟩,
  ⟨[], [.one (.pl (.int .i64))]⟩,
  ⟨[(true, .box [.pl XTc])], [.one (.pl (.list (.int .i64))), .one (.fn 43 [] [some 0])]⟩,
  ⟨[(true, .box [.pl XTc])], [.one (.pl (.list (.int .i64))), .one (.fn 43 [] [some 0])]⟩,
  ⟨[(true, .box [.pl XTc])], [.one (.pl (.int .i64)), .one (.ptr 0 0)]⟩,
  ⟨[], [.agg [.pl XTc]]⟩,
  ⟨[], [.agg [.pl XOc]]⟩,
  ⟨[(true, .arr (.int .i64))], [.one (.sl 0), .one (.fn 47 [] [])]⟩,
  ⟨[(true, .arr (.int .i64))], [.one (.sl 0), .one (.fn 47 [] [])]⟩,
  ⟨[], [.one (.pl (.int .i64))]⟩,
  ⟨[(true, .box [.sl 1]), (true, .arr (.int .i64))], [.one (.ifp 61 0 0), .one (.ifi 3 .i64)]⟩,
  ⟨[(true, .box [.sl 1]), (true, .arr (.int .i64))], [.one (.ptr 0 0), .one (.ifi 3 .i64)]⟩,
  ⟨[(true, .arr (.int .i64))], [.one (.sl 0)]⟩,
  ⟨[(true, .box [.sl 1]), (true, .arr (.int .i64))], [.one (.ifp 61 0 0), .one (.pl (.int .i64))]⟩,
  ⟨[(true, .arr (.int .i64))], [.one (.sl 0), .one (.pl (.int .i64)), .one (.pl (.int .i64))]⟩,
  ⟨[(true, .arr (.int .i64))], [.one (.sl 0), .one (.pl (.int .i64)), .one (.pl (.int .i64))]⟩,
  ⟨[(true, .box [.sl 1]), (true, .arr (.int .i64))], [.one (.ifp 61 0 0)]⟩,
  ⟨[(true, .box [.sl 1]), (true, .arr (.int .i64))], [.one (.ifp 61 0 0), .one (.pl (.int .i64)), .one (.pl (.int .i64))]⟩,
  ⟨[(true, .box [.sl 1]), (true, .arr (.int .i64))], [.one (.ptr 0 0)]⟩,
  ⟨[], [.agg [.pl XTc]]⟩,
  ⟨[], [.one (.pl (.list (.int .i64)))]⟩,
  ⟨[], [.one (.pl (.list (.int .i64))), .one (.pl (.list (.int .i64)))]⟩,
  ⟨[], [.agg [.pl XTc]]⟩,
  ⟨[(true, .box [.pl (.int .i64)])], [.one (.pl (.list (.int .i64))), .one (.fn 36 [] [some 0])]⟩,
  ⟨[(true, .box [.pl (.int .i64)])], [.one (.pl (.list (.int .i64))), .one (.fn 36 [] [some 0])]⟩,
  ⟨[(true, .box [.pl (.int .i64)])], [.one (.pl (.int .i64)), .one (.ptr 0 0)]⟩,
  ⟨[], [.agg [.pl XTc]]⟩,
  ⟨[], [.one (.pl (.list (.int .i64))), .one (.pl (.int .i64))]⟩,
  ⟨[], [.one (.pl (.int .u64)), .one (.pl (.int .u64))]⟩,
  ⟨[], [.one (.pl (.int .u64)), .one (.pl (.int .u64))]⟩,
  ⟨[], [.agg [.pl XTc]]⟩,
  ⟨[], [.agg [.pl XTc]]⟩,
  ⟨[], [.agg [.pl XTc]]⟩,
  ⟨[], [.one (.pl (.int .i64))]⟩,
  ⟨[], [.one (.pl (.int .i64))]⟩,
  ⟨[], [.agg [.pl XTc], .agg [.pl XOc]]⟩,
  ⟨[], [.one (.pl (.int .i64))]⟩,
  ⟨[], [.agg [.pl XTc], .one (.pl (.int .i64)), .one (.pl (.int .i64)), .one (.pl (.int .i64))]⟩,
  ⟨[], [.agg [.pl XTc]]⟩,
  ⟨[], [.agg [.pl XOc]]⟩,
  ⟨[], [.agg [.pl XTc]]⟩,
  ⟨[], [.one (.pl (.list (.int .i64))), .one (.pl (.int .i64))]⟩,
  ⟨[], [.agg [.pl XTc]]⟩,
  ⟨[], [.agg [.pl XTc], .agg [.pl XTc]]⟩,
  ⟨[], [.agg [.pl XTc]]⟩,
  ⟨[], [.agg [.pl XTc]]⟩,
  ⟨[], [.agg [.pl XTc], .one (.pl (.list (.list (.int .i64))))]⟩,
  ⟨[], [.one (.pl (.list (.prod .str (.prod (.int .i64) (.list (.prod (.int .i64) (.prod (.int .i64) (.prod (.int .i64) (.prod (.int .i64) (.prod (.int .i64) .str)))))))))), .one (.pl (.list (.list (.int .i64))))]⟩,
  ⟨[], [.agg [.pl XTc], .one (.pl (.list (.list (.int .i64))))]⟩,
  ⟨[], [.agg [.pl XTc], .one (.pl (.list (.int .i64)))]⟩,
  ⟨[(true, .arr (.int .i64))], [.agg [.pl XOc], .one (.pl (.list (.int .i64))), .one (.sl 0), .one (.pl (.list (.int .i64)))]⟩,
  ⟨[], [.one (.pl (.int .i64)), .one (.pl (.int .i64)), .one (.pl (.int .i64)), .one (.pl (.int .i64))]⟩,
  ⟨[], [.one (.pl .bool)]⟩,
  ⟨[], [.one (.pl (.int .i64))]⟩,
  ⟨[], [.one (.pl (.int .i64)), .one (.pl (.int .i64))]⟩,
  ⟨[], [.one (.pl (.int .i64))]⟩,
  ⟨[], [.one (.pl (.list (.list (.int .i64)))), .one (.pl (.list (.list (.int .i64))))]⟩,
  ⟨[], [.agg [.pl XTc]]⟩,
  ⟨[], [.agg [.pl XTc]]⟩,
  ⟨[], [.agg [.pl XTc]]⟩,
  ⟨[], [.agg [.pl XOc], .one (.pl (.int .i64))]⟩]
  koutsL := [[⟨[], [.one (.pl .bool)]⟩],
  [⟨[], [.one (.pl .bool)]⟩],
  [⟨[], [.one (.pl .bool)]⟩],
  [⟨[], [.agg [.pl XTc]]⟩],
  [⟨[(true, .arr (.int .i64))], [.one (.sl 0), .one (.pl (.int .i64))]⟩],
  [⟨[], [.one (.pl (.int .i64))]⟩],
  [⟨[(true, .box [.pl XTc])], [.one (.pl .bool)]⟩],
  [⟨[(true, .box [.pl XTc])], [.one (.pl (.int .i64))]⟩],
  [⟨[(true, .box [.pl XTc])], [.one (.pl .bool)]⟩],
  [⟨[], [.one (.pl .bool)]⟩],
  [⟨[], [.one (.pl (.list (.int .i64))), .one (.pl (.list (.int .i64)))]⟩],
  [⟨[], [.one (.pl (.int .i64))]⟩],
  [⟨[], [.one (.pl (.int .i64))]⟩],
  [⟨[(true, .box [.pl XTc])], [.one (.pl .bool)]⟩],
  [⟨[], [.one (.pl .bool)]⟩],
  [⟨[], [.one (.pl (.int .i64))]⟩],
  [⟨[], [.one (.pl .bool)]⟩],
  [⟨[], [.one (.pl .bool)]⟩],
  [⟨[(true, .box [.pl XTc])], [.one (.pl .bool)]⟩],
  [⟨[(true, .box [.pl XTc])], [.one (.pl (.int .i64))]⟩],
  [⟨[(true, .box [.pl XTc])], [.one (.pl .bool)]⟩],
  [⟨[], [.one (.pl .bool)]⟩],
  [⟨[(true, .arr (.int .i64))], [.one (.sl 0)]⟩],
  [⟨[(true, .arr (.int .i64))], [.one (.sl 0)]⟩, ⟨[(true, .gone), (true, .arr (.int .i64))], [.one (.sl 1)]⟩],
  [⟨[(true, .arr (.int .i64))], [.one (.pl (.int .i64))]⟩],
  [⟨[], [.one (.pl .bool)]⟩],
  [⟨[(true, .box [.sl 2]), (true, .gone), (true, .arr (.int .i64))], []⟩],
  [⟨[(true, .box [.sl 2]), (true, .gone), (true, .arr (.int .i64))], []⟩],
  [⟨[(true, .arr (.int .i64))], [.one (.pl (.int .i64))]⟩],
  [⟨[(true, .box [.sl 1]), (true, .arr (.int .i64))], []⟩],
  [⟨[(true, .arr (.int .i64))], [.one (.pl .bool)]⟩],
  [⟨[(true, .arr (.int .i64))], []⟩],
  [⟨[(true, .box [.sl 2]), (true, .gone), (true, .arr (.int .i64))], [.one (.ifi 3 .i64)]⟩],
  [⟨[(true, .box [.sl 1]), (true, .arr (.int .i64))], [.one (.pl .bool)]⟩],
  [⟨[(true, .box [.sl 2]), (true, .gone), (true, .arr (.int .i64))], [.one (.ifi 3 .i64)]⟩],
  [⟨[], [.agg [.pl XTc], .one (.pl (.int .i64))]⟩],
  [⟨[(true, .arr (.int .i64))], [.one (.sl 0)]⟩],
  [⟨[], [.one (.pl .bool)]⟩],
  [⟨[], [.one (.pl .bool)]⟩],
  [⟨[(true, .box [.pl (.int .i64)])], [.one (.pl .bool)]⟩],
  [⟨[(true, .box [.pl (.int .i64)])], [.one (.pl (.int .i64))]⟩],
  [⟨[(true, .box [.pl (.int .i64)])], [.one (.pl .bool)]⟩],
  [⟨[(true, .arr (.int .i64))], [.one (.sl 0)]⟩],
  [⟨[(true, .arr (.int .i64))], [.one (.sl 0)]⟩],
  [⟨[], [.one (.pl (.int .u64)), .one (.pl (.int .u64))]⟩],
  [⟨[], [.one (.pl (.int .u64)), .one (.pl (.int .u64))]⟩],
  [⟨[(true, .arr (.int .i64))], [.one (.sl 0), .one (.pl (.int .i64))]⟩],
  [⟨[], [.one (.pl (.int .i64))]⟩],
  [⟨[], [.one (.pl .bool)]⟩],
  [⟨[], [.one (.pl (.int .i64))]⟩],
  [⟨[], [.one (.pl (.int .i64))]⟩],
  [⟨[], [.one (.pl .bool)]⟩],
  [⟨[], [.one (.pl .bool)]⟩],
  [⟨[], [.one (.pl .bool)]⟩],
  [⟨[(true, .arr (.int .i64))], [.one (.sl 0)]⟩],
  [⟨[(true, .arr (.int .i64))], [.one (.sl 0)]⟩],
  [⟨[], [.agg [.pl XTc], .one (.pl (.int .i64))]⟩],
  [⟨[], [.one (.pl (.int .i64))]⟩],
  [⟨[], [.agg [.pl XTc]]⟩],
  [⟨[], [.one (.pl .bool)]⟩],
  [⟨[], [.one (.pl .bool)]⟩],
  [⟨[(true, .arr (.int .i64))], [.one (.sl 0)]⟩],
  [⟨[], [.one (.pl .bool)]⟩],
  [⟨[], [.one (.pl .bool)]⟩],
  [⟨[(true, .arr (.list (.int .i64)))], [.one (.sl 0), .one (.pl (.int .i64))]⟩],
  [⟨[], [.one (.pl .bool)]⟩],
  [⟨[(true, .arr (.int .i64))], [.one (.pl (.int .i64)), .one (.pl (.int .i64))]⟩],
  [⟨[], [.one (.pl (.int .i64)), .one (.pl (.int .i64))]⟩],
  [⟨[], [.one (.pl (.int .i64))]⟩],
  [⟨[], [.one (.pl (.int .i64)), .one (.pl (.int .i64))]⟩],
  [⟨[], [.one (.pl (.int .i64)), .one (.pl (.int .i64))]⟩],
  [⟨[], [.one (.pl (.int .i64))]⟩],
  [⟨[], [.one (.pl .bool)]⟩],
  [⟨[], [.one (.pl .bool)]⟩],
  [⟨[], [.one (.pl .bool)]⟩],
  [⟨[], [.one (.pl .bool)]⟩],
  [⟨[], [.one (.pl .bool)]⟩]]
  bkL := [noBlk,
  ⟨[1, 3, 4], ⟨[(true, .box [.pl XTc]), (true, .box [.sl 2, .pl (.list (.int .i64)), .pl (.list (.int .i64))]), (false, .arr XOc)], [.one (.ptr 0 0), .one (.ptr 1 0), .one (.pl (.int .i64))]⟩, [2, 3], [(.norm, [], ⟨[(true, .box [.pl XTc]), (true, .box [.sl 3, .pl (.list (.int .i64)), .pl (.list (.int .i64))]), (true, .gone), (true, .arr XOc)], []⟩)]⟩,
  ⟨[0, 1, 7, 8], ⟨[(true, .box [.pl XTc])], [.one (.pl (.list XOc)), .one (.fn 41 [] [some 0]), .one (.pl (.int .i64)), .one (.pl (.int .i64))]⟩, [], [(.ret, [4], ⟨[(true, .box [.pl XTc])], [.one (.pl (.int .i64))]⟩), (.norm, [], ⟨[(true, .box [.pl XTc])], []⟩)]⟩,
  ⟨[5, 16, 17, 18], ⟨[(true, .box [.pl XTc])], [.one (.fn 56 [] [some 0]), .one (.pl (.list (.int .i64))), .one (.pl (.int .i64)), .one (.pl (.int .i64))]⟩, [2, 3, 7], [(.ret, [4], ⟨[(true, .box [.pl XTc])], [.one (.pl .bool)]⟩), (.norm, [], ⟨[(true, .box [.pl XTc])], []⟩)]⟩,
  ⟨[0, 1, 7, 8], ⟨[], [.one (.pl (.list (.int .i64))), .one (.fn 59 [] []), .one (.pl (.int .i64)), .one (.pl (.int .i64))]⟩, [], [(.ret, [4], ⟨[], [.one (.pl (.int .i64))]⟩), (.norm, [], ⟨[], []⟩)]⟩,
  ⟨[0, 1, 7, 8], ⟨[(true, .box [.pl XTc])], [.one (.pl (.list (.int .i64))), .one (.fn 43 [] [some 0]), .one (.pl (.int .i64)), .one (.pl (.int .i64))]⟩, [], [(.ret, [4], ⟨[(true, .box [.pl XTc])], [.one (.pl (.int .i64))]⟩), (.norm, [], ⟨[(true, .box [.pl XTc])], []⟩)]⟩,
  noBlk,
  noBlk,
  noBlk,
  noBlk,
  noBlk,
  ⟨[1, 3, 17, 18], ⟨[(true, .box [.pl XTc]), (true, .arr (.int .i64))], [.one (.ptr 0 0), .one (.sl 1), .one (.pl (.int .i64)), .one (.pl (.int .i64))]⟩, [], [(.ret, [2], ⟨[(true, .box [.pl XTc]), (true, .arr (.int .i64))], [.one (.pl .bool)]⟩), (.norm, [], ⟨[(true, .box [.pl XTc]), (true, .arr (.int .i64))], []⟩)]⟩,
  ⟨[1, 3, 5], ⟨[(true, .box [.pl XTc]), (true, .arr (.int .i64)), (false, .arr (.int .i64))], [.one (.ptr 0 0), .one (.sl 1), .one (.sl 2)]⟩, [1, 3, 17, 18], [(.ret, [2], ⟨[(true, .box [.pl XTc]), (true, .arr (.int .i64)), (true, .gone)], [.one (.pl .bool)]⟩), (.norm, [], ⟨[(true, .box [.pl XTc]), (true, .arr (.int .i64)), (true, .gone)], []⟩)]⟩,
  ⟨[3, 5, 64, 65, 66], ⟨[(true, .arr (.int .i64)), (false, .arr (.int .i64))], [.one (.sl 0), .one (.sl 1), .one (.pl (.list (.int .i64))), .one (.pl (.int .i64)), .one (.pl (.int .i64))]⟩, [1, 3], [(.ret, [2], ⟨[(true, .arr (.int .i64)), (true, .gone)], [.one (.pl .bool)]⟩), (.norm, [5], ⟨[(true, .arr (.int .i64)), (true, .gone), (true, .arr (.int .i64))], [.one (.sl 2)]⟩)]⟩,
  noBlk,
  ⟨[0, 1, 7, 8], ⟨[(true, .arr (.int .i64))], [.one (.sl 0), .one (.fn 47 [] []), .one (.pl (.int .i64)), .one (.pl (.int .i64))]⟩, [], [(.ret, [4], ⟨[(true, .arr (.int .i64))], [.one (.pl (.int .i64))]⟩), (.norm, [], ⟨[(true, .arr (.int .i64))], []⟩)]⟩,
  ⟨[0, 1, 5, 6], ⟨[(true, .arr (.int .i64))], [.one (.sl 0), .one (.fn 47 [] []), .one (.pl (.int .i64)), .one (.pl (.int .i64))]⟩, [0, 4], [(.norm, [5], ⟨[(true, .arr (.int .i64))], [.one (.pl (.int .i64))]⟩)]⟩,
  noBlk,
  ⟨[0, 1], ⟨[(true, .box [.sl 1]), (true, .arr (.int .i64))], [.one (.ifp 61 0 0), .one (.pl (.int .i64))]⟩, [], [(.norm, [], ⟨[(true, .box [.sl 1]), (true, .arr (.int .i64))], []⟩)]⟩,
  noBlk,
  noBlk,
  noBlk,
  ⟨[0, 2, 7], ⟨[(true, .box [.sl 1]), (true, .arr (.int .i64))], [.one (.ifp 61 0 0), .one (.pl (.int .i64)), .one (.pl (.int .i64))]⟩, [1, 6], [(.norm, [7], ⟨[(true, .box [.sl 1]), (true, .arr (.int .i64))], [.one (.pl (.int .i64))]⟩)]⟩,
  noBlk,
  noBlk,
  noBlk,
  noBlk,
  noBlk,
  noBlk,
  noBlk,
  noBlk,
  noBlk,
  noBlk,
  noBlk,
  noBlk,
  noBlk,
  ⟨[5, 6, 7, 30, 31, 32], ⟨[(true, .arr (.int .i64)), (true, .rows (.int .i64)), (true, .box [.sl 3]), (false, .arr (.int .i64))], [.one (.sl 0), .one (.sl 1), .one (.ptr 2 0), .one (.pl (.list XOc)), .one (.pl (.int .i64)), .one (.pl (.int .i64))]⟩, [2, 3, 5, 6, 7], [(.norm, [], ⟨[(true, .arr (.int .i64)), (true, .rows (.int .i64)), (true, .box [.sl 4]), (true, .gone), (true, .arr (.int .i64))], []⟩)]⟩,
  ⟨[5, 6, 8, 38, 39, 40], ⟨[(true, .arr (.int .i64)), (true, .rows (.int .i64)), (true, .arr (.int .i64))], [.one (.sl 0), .one (.sl 1), .one (.pl (.int .i64)), .one (.sl 2), .one (.pl (.int .i64)), .one (.pl (.int .i64))]⟩, [5, 6, 7, 8, 30, 31, 32], [(.norm, [], ⟨[(true, .arr (.int .i64)), (true, .rows (.int .i64)), (true, .arr (.int .i64))], []⟩)]⟩,
  ⟨[5, 6, 7, 12], ⟨[(true, .arr (.int .i64)), (true, .box [.sl 3]), (false, .arr (.int .i64)), (false, .arr (.int .i64))], [.one (.sl 0), .one (.pl (.list (.list (.int .i64)))), .one (.ptr 1 0), .one (.sl 2)]⟩, [2, 3], [(.norm, [12], ⟨[(true, .arr (.int .i64)), (true, .box [.sl 5]), (true, .gone), (true, .gone), (true, .arr (.int .i64)), (true, .arr (.int .i64))], [.one (.sl 4)]⟩)]⟩,
  ⟨[5, 7, 84, 85, 86], ⟨[(true, .arr (.int .i64)), (true, .box [.sl 2]), (false, .arr (.int .i64))], [.one (.sl 0), .one (.ptr 1 0), .one (.pl (.list (.int .i64))), .one (.pl (.int .i64)), .one (.pl (.int .i64))]⟩, [5, 6, 7, 12], [(.norm, [], ⟨[(true, .arr (.int .i64)), (true, .box [.sl 3]), (true, .gone), (true, .arr (.int .i64))], []⟩)]⟩,
  noBlk,
  noBlk,
  noBlk,
  noBlk,
  noBlk,
  noBlk,
  noBlk,
  noBlk,
  noBlk,
  noBlk,
  noBlk,
  ⟨[6, 29, 30, 31], ⟨[(true, .arr (.int .i64)), (true, .arr (.int .i64))], [.one (.sl 0), .one (.sl 1), .one (.pl (.int .i64)), .one (.pl (.int .i64))]⟩, [1, 2, 3, 4, 6], [(.norm, [], ⟨[(true, .arr (.int .i64)), (true, .arr (.int .i64))], []⟩)]⟩,
  ⟨[1, 6, 9, 45, 46, 47], ⟨[(true, .box [.pl XTc]), (true, .arr (.int .i64)), (true, .box [.sl 4, .sl 5, .sl 6]), (true, .arr (.int .i64)), (false, .arr XOc), (true, .arr (.int .i64)), (true, .arr (.int .i64))], [.one (.ptr 0 0), .one (.sl 1), .one (.ptr 2 0), .one (.sl 3), .one (.pl (.int .i64)), .one (.pl (.int .i64))]⟩, [1, 2, 3, 6, 9], [(.norm, [], ⟨[(true, .box [.pl XTc]), (true, .arr (.int .i64)), (true, .box [.sl 7, .sl 5, .sl 6]), (true, .arr (.int .i64)), (true, .gone), (true, .arr (.int .i64)), (true, .arr (.int .i64)), (true, .arr XOc)], []⟩)]⟩,
  ⟨[6, 9, 86, 87, 88], ⟨[(true, .arr (.int .i64)), (true, .box [.sl 2, .sl 3, .sl 4]), (true, .arr XOc), (false, .arr (.int .i64)), (true, .arr (.int .i64))], [.one (.sl 0), .one (.ptr 1 0), .one (.pl (.list (.int .i64))), .one (.pl (.int .i64)), .one (.pl (.int .i64))]⟩, [2, 3, 9], [(.norm, [], ⟨[(true, .arr (.int .i64)), (true, .box [.sl 2, .sl 5, .sl 4]), (true, .arr XOc), (true, .gone), (true, .arr (.int .i64)), (true, .arr (.int .i64))], []⟩)]⟩,
  ⟨[0, 1, 5], ⟨[], [.one (.pl (.list (.int .i64))), .one (.pl (.list (.int .i64))), .one (.pl (.int .i64))]⟩, [], [(.ret, [4], ⟨[], [.one (.pl .bool)]⟩), (.norm, [], ⟨[], []⟩)]⟩,
  ⟨[9, 10, 11], ⟨[], [.one (.pl (.list XOc)), .one (.pl (.int .i64)), .one (.pl (.int .i64))]⟩, [], [(.ret, [2], ⟨[], [.one (.pl .bool)]⟩), (.norm, [], ⟨[], []⟩)]⟩,
  ⟨[0, 1, 7, 8], ⟨[(true, .box [.pl (.int .i64)])], [.one (.pl (.list (.int .i64))), .one (.fn 36 [] [some 0]), .one (.pl (.int .i64)), .one (.pl (.int .i64))]⟩, [], [(.ret, [4], ⟨[(true, .box [.pl (.int .i64)])], [.one (.pl (.int .i64))]⟩), (.norm, [], ⟨[(true, .box [.pl (.int .i64)])], []⟩)]⟩,
  noBlk,
  noBlk,
  ⟨[0, 1], ⟨[], [.one (.pl (.list (.int .i64))), .one (.pl (.int .i64))]⟩, [], [(.ret, [4], ⟨[(true, .arr (.int .i64))], [.one (.sl 0)]⟩)]⟩,
  ⟨[7, 8], ⟨[(true, .arr (.int .i64))], [.one (.sl 0), .one (.pl (.int .i64))]⟩, [4, 7], [(.norm, [], ⟨[(true, .arr (.int .i64))], []⟩)]⟩,
  ⟨[3, 17, 18, 19], ⟨[(true, .arr (.int .i64))], [.one (.sl 0), .one (.pl (.list XOc)), .one (.pl (.int .i64)), .one (.pl (.int .i64))]⟩, [2, 3], [(.norm, [], ⟨[(true, .arr (.int .i64))], []⟩)]⟩,
  ⟨[3, 4, 25, 26, 27], ⟨[(true, .arr (.int .i64)), (true, .arr (.int .i64))], [.one (.sl 0), .one (.pl (.int .i64)), .one (.sl 1), .one (.pl (.int .i64)), .one (.pl (.int .i64))]⟩, [3, 17, 18, 19], [(.norm, [], ⟨[(true, .arr (.int .i64)), (true, .arr (.int .i64))], []⟩)]⟩,
  ⟨[1, 3], ⟨[(true, .box [.pl XTc])], [.one (.ptr 0 0), .one (.pl (.int .i64))]⟩, [1], [(.ret, [2], ⟨[(true, .box [.pl XTc])], [.one (.pl .bool)]⟩), (.norm, [], ⟨[(true, .box [.pl XTc])], []⟩)]⟩,
  ⟨[1, 6], ⟨[(true, .box [.pl XTc])], [.one (.ptr 0 0), .one (.pl (.int .i64))]⟩, [], [(.ret, [2], ⟨[(true, .box [.pl XTc])], [.one (.pl .bool)]⟩), (.norm, [], ⟨[(true, .box [.pl XTc])], []⟩)]⟩,
  noBlk,
  noBlk,
  noBlk,
  ⟨[1, 3, 4], ⟨[(true, .box [.pl XTc]), (true, .arr .bool), (false, .arr (.int .i64))], [.one (.ptr 0 0), .one (.sl 1), .one (.sl 2)]⟩, [], [(.ret, [2], ⟨[(true, .box [.pl XTc]), (true, .arr .bool), (true, .gone), (true, .arr (.int .i64))], [.one (.sl 3)]⟩)]⟩,
  ⟨[1, 3, 5, 6], ⟨[(true, .box [.pl XTc]), (true, .arr .bool)], [.one (.ptr 0 0), .one (.sl 1), .one (.pl (.int .i64)), .one (.pl (.int .i64))]⟩, [1, 2, 3, 4], [(.norm, [5], ⟨[(true, .box [.pl XTc]), (true, .arr .bool)], [.one (.pl (.int .i64))]⟩)]⟩,
  ⟨[3, 7, 8, 9], ⟨[(true, .arr .bool), (true, .arr (.int .i64))], [.one (.sl 0), .one (.pl .bool), .one (.sl 1), .one (.pl (.int .i64))]⟩, [1, 3, 5, 6], [(.norm, [7], ⟨[(true, .arr .bool), (true, .arr (.int .i64))], [.one (.pl .bool)]⟩)]⟩,
  noBlk,
  noBlk,
  noBlk,
  noBlk,
  noBlk,
  noBlk,
  noBlk,
  noBlk,
  noBlk,
  noBlk,
  noBlk,
  noBlk,
  noBlk,
  ⟨[4, 6, 7], ⟨[(true, .arr (.int .i64)), (true, .arr (.int .i64))], [.one (.sl 0), .one (.sl 1), .one (.pl (.int .i64))]⟩, [1, 2, 3, 4, 6], [(.norm, [], ⟨[(true, .arr (.int .i64)), (true, .arr (.int .i64))], []⟩)]⟩,
  ⟨[1, 4, 6, 8, 9], ⟨[(true, .box [.pl XTc]), (true, .arr (.int .i64)), (true, .box [.sl 3, .sl 4, .sl 5]), (false, .arr XOc), (true, .arr (.int .i64)), (true, .arr (.int .i64))], [.one (.ptr 0 0), .one (.sl 1), .one (.pl (.list (.int .i64))), .one (.ptr 2 0), .one (.pl (.int .i64))]⟩, [1, 2, 3, 6, 8], [(.norm, [], ⟨[(true, .box [.pl XTc]), (true, .arr (.int .i64)), (true, .box [.sl 6, .sl 4, .sl 5]), (true, .gone), (true, .arr (.int .i64)), (true, .arr (.int .i64)), (true, .arr XOc)], []⟩)]⟩,
  ⟨[1, 6, 8, 11], ⟨[(true, .box [.pl XTc]), (true, .box [.sl 2, .sl 3, .sl 4]), (true, .arr XOc), (false, .arr (.int .i64)), (true, .arr (.int .i64))], [.one (.ptr 0 0), .one (.pl (.list (.int .i64))), .one (.ptr 1 0), .one (.pl (.int .i64))]⟩, [2, 3, 8], [(.norm, [], ⟨[(true, .box [.pl XTc]), (true, .box [.sl 2, .sl 5, .sl 4]), (true, .arr XOc), (true, .gone), (true, .arr (.int .i64)), (true, .arr (.int .i64))], []⟩)]⟩,
  noBlk,
  ⟨[1, 3, 4], ⟨[(true, .box [.pl XTc]), (true, .box [.sl 2, .pl (.list (.int .i64)), .pl (.list (.int .i64))]), (false, .arr XOc)], [.one (.ptr 0 0), .one (.ptr 1 0), .one (.pl (.int .i64))]⟩, [2, 3], [(.norm, [], ⟨[(true, .box [.pl XTc]), (true, .box [.sl 3, .pl (.list (.int .i64)), .pl (.list (.int .i64))]), (true, .gone), (true, .arr XOc)], []⟩)]⟩,
  ⟨[2, 3, 5], ⟨[(true, .box [.pl XTc]), (true, .box [.pl XTc])], [.one (.ptr 0 0), .one (.ptr 1 0), .one (.pl (.int .i64))]⟩, [], [(.ret, [4], ⟨[(true, .box [.pl XTc]), (true, .box [.pl XTc])], [.one (.pl .bool)]⟩), (.norm, [], ⟨[(true, .box [.pl XTc]), (true, .box [.pl XTc])], []⟩)]⟩,
  ⟨[1, 3], ⟨[(true, .box [.pl XTc])], [.one (.ptr 0 0), .one (.pl (.int .i64))]⟩, [], [(.ret, [2], ⟨[(true, .box [.pl XTc])], [.one (.pl .bool)]⟩), (.norm, [], ⟨[(true, .box [.pl XTc])], []⟩)]⟩,
  ⟨[3, 4, 5], ⟨[(true, .arr (.int .i64))], [.one (.pl (.int .i64)), .one (.sl 0), .one (.pl (.int .i64))]⟩, [1, 3], [(.ret, [2], ⟨[(true, .arr (.int .i64))], [.one (.pl .bool)]⟩), (.norm, [], ⟨[(true, .arr (.int .i64))], []⟩)]⟩,
  noBlk,
  ⟨[1, 3, 4], ⟨[(true, .box [.pl XTc]), (false, .arr (.int .i64))], [.one (.ptr 0 0), .one (.sl 1), .one (.pl (.int .i64))]⟩, [1, 2], [(.norm, [3], ⟨[(true, .box [.pl XTc]), (true, .gone), (true, .arr (.int .i64))], [.one (.sl 2)]⟩)]⟩,
  ⟨[1, 3, 5], ⟨[(true, .box [.pl XTc]), (true, .arr (.int .i64))], [.one (.ptr 0 0), .one (.sl 1), .one (.pl (.int .i64))]⟩, [2, 3], [(.norm, [], ⟨[(true, .box [.pl XTc]), (true, .arr (.int .i64))], []⟩)]⟩,
  ⟨[3, 5, 6, 7], ⟨[(true, .arr (.int .i64)), (true, .arr (.int .i64))], [.one (.sl 0), .one (.pl (.int .i64)), .one (.sl 1), .one (.pl (.int .i64))]⟩, [1, 3, 5], [(.norm, [], ⟨[(true, .arr (.int .i64)), (true, .arr (.int .i64))], []⟩)]⟩,
  ⟨[0, 5], ⟨[], [.one (.pl (.list (.prod .str (.prod (.int .i64) (.list (.prod (.int .i64) (.prod (.int .i64) (.prod (.int .i64) (.prod (.int .i64) (.prod (.int .i64) .str)))))))))), .one (.pl (.int .i64))]⟩, [1], [(.ret, [4], ⟨[], [.one (.pl .bool)]⟩), (.norm, [], ⟨[], []⟩)]⟩,
  ⟨[1, 6], ⟨[], [.one (.pl (.list (.list (.int .i64)))), .one (.pl (.int .i64))]⟩, [], [(.ret, [4], ⟨[], [.one (.pl .bool)]⟩), (.norm, [], ⟨[], []⟩)]⟩,
  noBlk,
  ⟨[1, 2, 5], ⟨[(true, .box [.pl XTc])], [.one (.pl (.list (.int .i64))), .one (.ptr 0 0), .one (.pl (.int .i64))]⟩, [], [(.ret, [4], ⟨[(true, .box [.pl XTc])], [.one (.pl .bool)]⟩), (.norm, [], ⟨[(true, .box [.pl XTc])], []⟩)]⟩,
  noBlk,
  noBlk,
  noBlk,
  ⟨[2, 4], ⟨[(true, .arr (.int .i64)), (true, .box [.pl XOc])], [.one (.sl 0), .one (.ptr 1 0)]⟩, [], [(.ret, [8, 9], ⟨[(true, .arr (.int .i64)), (true, .box [.pl XOc])], [.one (.pl (.int .i64)), .one (.pl (.int .i64))]⟩)]⟩,
  ⟨[2, 10, 11, 12], ⟨[(true, .arr (.int .i64)), (true, .arr (.int .i64)), (true, .arr (.int .i64))], [.one (.sl 0), .one (.sl 1), .one (.sl 2), .one (.pl (.int .i64))]⟩, [4, 8, 9, 11], [(.norm, [], ⟨[(true, .arr (.int .i64)), (true, .arr (.int .i64)), (true, .arr (.int .i64))], []⟩)]⟩,
  noBlk,
  noBlk,
  noBlk,
  noBlk,
  ⟨[1, 2, 7, 8, 9, 10], ⟨[(true, .box [.pl XTc]), (true, .arr (.int .i64)), (false, .arr (.list (.int .i64)))], [.one (.pl (.list (.list (.int .i64)))), .one (.ptr 0 0), .one (.sl 1), .one (.sl 2), .one (.pl (.list (.int .i64))), .one (.pl (.int .i64))]⟩, [], [(.ret, [4, 5], ⟨[(true, .box [.pl XTc]), (true, .arr (.int .i64)), (true, .gone), (true, .arr (.list (.int .i64)))], [.one (.sl 3), .one (.pl (.int .i64))]⟩), (.norm, [8], ⟨[(true, .box [.pl XTc]), (true, .arr (.int .i64)), (true, .gone), (true, .arr (.list (.int .i64)))], [.one (.sl 3)]⟩)]⟩,
  ⟨[1, 2, 7, 9, 10, 11, 12, 13], ⟨[(true, .box [.pl XTc]), (true, .arr (.int .i64)), (true, .arr (.int .i64))], [.one (.pl (.list (.list (.int .i64)))), .one (.ptr 0 0), .one (.sl 1), .one (.pl (.list (.int .i64))), .one (.pl (.int .i64)), .one (.sl 2), .one (.pl (.int .i64)), .one (.pl (.int .i64))]⟩, [1, 2, 4, 5, 7, 8, 9, 10, 11], [(.norm, [12], ⟨[(true, .box [.pl XTc]), (true, .arr (.int .i64)), (true, .arr (.int .i64))], [.one (.pl (.int .i64))]⟩)]⟩,
  ⟨[2, 11, 16, 17], ⟨[(true, .box [.pl XTc]), (true, .arr (.int .i64)), (false, .arr (.int .i64))], [.one (.ptr 0 0), .one (.sl 1), .one (.sl 2), .one (.pl (.int .i64))]⟩, [1, 2, 4, 5, 7, 8, 9, 10, 11], [(.norm, [16], ⟨[(true, .box [.pl XTc]), (true, .arr (.int .i64)), (true, .gone), (true, .arr (.int .i64))], [.one (.sl 3)]⟩)]⟩,
  ⟨[0, 1, 5], ⟨[], [.one (.pl (.list (.list (.int .i64)))), .one (.pl (.list (.list (.int .i64)))), .one (.pl (.int .i64))]⟩, [], [(.ret, [4], ⟨[], [.one (.pl .bool)]⟩), (.norm, [], ⟨[], []⟩)]⟩,
  ⟨[3, 5, 6], ⟨[(true, .arr (.int .i64)), (true, .arr (.int .i64))], [.one (.sl 0), .one (.sl 1), .one (.pl (.int .i64))]⟩, [1, 5], [(.ret, [2], ⟨[(true, .arr (.int .i64)), (true, .arr (.int .i64))], [.one (.pl .bool)]⟩), (.norm, [], ⟨[(true, .arr (.int .i64)), (true, .arr (.int .i64))], []⟩)]⟩,
  ⟨[1, 5, 7], ⟨[(true, .box [.pl XTc]), (true, .arr (.int .i64))], [.one (.ptr 0 0), .one (.sl 1), .one (.pl (.int .i64))]⟩, [], [(.ret, [2], ⟨[(true, .box [.pl XTc]), (true, .arr (.int .i64))], [.one (.pl .bool)]⟩), (.norm, [], ⟨[(true, .box [.pl XTc]), (true, .arr (.int .i64))], []⟩)]⟩,
  ⟨[5, 7, 8, 9], ⟨[(true, .arr (.int .i64)), (true, .arr (.int .i64))], [.one (.sl 0), .one (.pl (.int .i64)), .one (.sl 1), .one (.pl (.int .i64))]⟩, [1, 5, 7, 8], [(.ret, [2], ⟨[(true, .arr (.int .i64)), (true, .arr (.int .i64))], [.one (.pl .bool)]⟩), (.norm, [], ⟨[(true, .arr (.int .i64)), (true, .arr (.int .i64))], []⟩)]⟩,
  ⟨[5, 6, 7], ⟨[(true, .box [.pl XTc]), (true, .arr (.int .i64))], [.one (.ptr 0 0), .one (.sl 1), .one (.pl (.int .i64))]⟩, [], [(.ret, [2], ⟨[(true, .box [.pl XTc]), (true, .arr (.int .i64))], [.one (.pl .bool)]⟩), (.norm, [], ⟨[(true, .box [.pl XTc]), (true, .arr (.int .i64))], []⟩)]⟩,
  ⟨[5, 6, 7, 8], ⟨[(true, .box [.pl XTc]), (true, .arr (.int .i64))], [.one (.ptr 0 0), .one (.sl 1), .one (.pl (.int .i64)), .one (.pl (.int .i64))]⟩, [5, 6, 7], [(.ret, [2], ⟨[(true, .box [.pl XTc]), (true, .arr (.int .i64))], [.one (.pl .bool)]⟩), (.norm, [], ⟨[(true, .box [.pl XTc]), (true, .arr (.int .i64))], []⟩)]⟩,
  ⟨[1, 5, 6], ⟨[(true, .arr (.int .i64))], [.one (.pl (.int .i64)), .one (.sl 0), .one (.pl (.int .i64))]⟩, [], [(.ret, [4], ⟨[(true, .arr (.int .i64))], [.one (.pl .bool)]⟩), (.norm, [], ⟨[(true, .arr (.int .i64))], []⟩)]⟩]
  lkL := [(3, [(0, 1)]), (4, [(0, 36), (2, 37), (4, 38), (6, 39)]), (7, [(0, 2)]), (9, [(0, 3)]), (15, [(0, 4)]), (19, [(0, 5)]), (21, [(0, 11), (2, 12), (4, 13)]), (23, [(0, 16)]), (24, [(0, 15)]), (29, [(0, 18)]), (33, [(0, 22)]), (35, [(0, 51), (2, 52), (6, 53)]), (37, [(0, 54)]), (38, [(0, 55)]), (40, [(0, 56)]), (42, [(0, 61), (2, 62)]), (43, [(0, 60)]), (48, [(0, 63), (2, 64)]), (54, [(0, 68), (2, 69), (4, 70)]), (56, [(0, 84), (2, 85), (4, 86)]), (58, [(0, 88)]), (59, [(0, 89)]), (60, [(0, 90), (2, 91)]), (61, [(0, 93), (2, 94), (4, 95)]), (63, [(0, 96), (2, 97)]), (64, [(0, 109), (2, 110), (4, 111)]), (65, [(0, 99)]), (66, [(1, 104)]), (72, [(0, 112)]), (74, [(0, 113), (2, 114), (4, 115)]), (75, [(0, 116), (2, 117)]), (76, [(0, 118)])]
  tkL := [(43, [(3, 59)]), (66, [(15, 103)])]
  dkL := [(0, [(8, ([21, 26], (.take 0 (.take 1 (.only 2 (.take 3 (.take 4 (.take 5 (.take 6 (.take 7 (.take 8 (.take 9 (.take 11 (.only 10 (.only 12 (.take 13 (.take 14 (.take 15 (.take 16 (.take 17 (.take 18 (.take 19 (.take 20 (.take 22 (.only 21 (.only 23 (.take 24 (.take 25 (.take 26 (.take 27 (.take 29 (.only 28 (.only 30 (.only 31 (.take 32 (.take 33 (.only 34 (.take 35 (.take 36 .done)))))))))))))))))))))))))))))))))))))))]),
  (10, [(3, ([], (.take 0 (.take 1 (.take 2 (.take 3 (.take 4 (.take 5 (.take 6 (.take 7 .done))))))))))]),
  (27, [(0, ([0], (.take 0 (.take 1 (.take 2 (.take 4 (.alt 3 (.only 5 (.only 6 (.only 7 (.take 8 (.only 9 .done))))) (.only 5 (.alt 3 (.only 6 (.only 7 (.take 8 (.only 9 .done)))) (.only 6 (.only 3 (.only 7 (.take 8 (.only 9 .done))))))))))))))]),
  (30, [(1, ([], (.take 0 (.take 1 (.take 2 (.take 3 (.take 4 (.take 5 (.take 6 (.take 7 (.take 8 (.take 9 .done))))))))))))]),
  (31, [(0, ([0], (.take 0 (.take 1 (.take 2 (.take 3 (.take 4 (.take 5 (.take 6 (.take 8 (.take 9 (.take 10 (.alt 7 (.only 11 (.take 12 (.only 13 (.take 14 (.only 15 .done))))) (.only 11 (.only 7 (.take 12 (.only 13 (.take 14 (.only 15 .done)))))))))))))))))))]),
  (35, [(26, ([9], (.take 0 (.take 2 (.take 3 (.take 4 (.take 5 (.alt 1 (.only 6 (.only 7 (.take 8 (.only 9 .done)))) (.only 6 (.only 1 (.only 7 (.take 8 (.only 9 .done)))))))))))))]),
  (37, [(6, ([], (.take 0 (.take 1 (.take 2 (.take 3 (.take 4 (.take 5 (.take 6 (.take 7 (.take 8 .done)))))))))))]),
  (43, [(9, ([7], (.take 0 (.take 1 (.take 2 (.take 3 (.take 4 (.take 5 (.take 6 (.only 7 (.take 8 (.take 9 .done))))))))))))]),
  (47, [(3, ([], (.take 0 (.take 3 (.take 4 (.take 5 (.only 1 (.take 2 (.take 6 .done)))))))))]),
  (48, [(13, ([], (.take 0 (.take 1 (.take 2 (.take 3 (.take 4 (.take 5 (.take 6 (.take 7 (.take 8 (.take 9 (.take 10 (.take 11 (.take 12 (.take 13 (.take 14 (.take 15 (.take 16 .done)))))))))))))))))))]),
  (56, [(13, ([], (.take 0 (.take 1 (.take 2 (.take 3 (.take 4 (.take 5 (.take 6 (.take 7 (.only 8 (.only 9 .done)))))))))))), (21, ([8], (.take 0 (.take 2 (.take 3 (.take 4 (.take 5 (.take 6 (.take 7 (.take 8 (.take 9 (.alt 1 (.only 10 (.only 11 (.take 12 (.only 13 .done)))) (.only 10 (.only 1 (.only 11 (.take 12 (.only 13 .done)))))))))))))))))]),
  (59, [(6, ([], (.take 0 (.take 1 (.take 2 (.take 3 (.take 4 (.take 5 (.take 6 (.take 7 (.take 8 (.take 9 (.take 10 .done)))))))))))))]),
  (64, [(10, ([], (.take 0 (.take 1 (.take 2 (.take 3 (.take 4 (.only 5 (.take 6 .done))))))))), (17, ([11], (.take 0 (.take 1 (.take 2 (.take 3 (.take 4 (.take 5 (.take 6 (.take 7 (.take 8 (.take 9 (.take 10 (.take 11 (.take 12 (.take 13 (.only 14 (.take 15 (.take 16 (.take 17 (.take 18 (.take 19 .done))))))))))))))))))))))]),
  (66, [(21, ([], (.take 0 (.take 1 (.take 2 (.take 3 (.take 4 (.take 5 (.take 6 (.take 7 (.take 8 (.take 9 (.take 10 (.only 11 (.take 12 (.take 13 (.take 14 (.take 15 .done))))))))))))))))))]),
  (70, [(1, ([], (.take 0 (.take 2 (.take 5 (.take 7 (.only 1 (.only 3 (.take 4 (.only 6 (.only 8 (.take 9 (.take 10 (.take 11 .done))))))))))))))]),
  (72, [(6, ([], (.take 0 (.take 1 (.take 2 (.take 3 (.take 4 (.take 5 (.take 6 (.take 7 (.only 8 (.take 9 .done))))))))))))]),
  (73, [(7, ([], (.take 0 (.take 1 (.take 2 (.take 3 (.only 4 (.take 5 (.take 6 (.take 7 (.take 8 (.take 9 (.take 10 (.take 11 (.take 12 (.take 13 (.take 14 (.take 15 (.take 16 (.take 18 (.only 17 (.only 19 (.only 20 (.take 21 (.take 22 (.only 23 (.take 24 (.take 25 .done))))))))))))))))))))))))))))]),
  (74, [(22, ([], (.take 0 (.take 1 (.take 2 (.take 3 (.take 4 (.take 5 (.take 6 (.take 7 (.take 8 (.take 9 (.take 10 (.take 11 .done))))))))))))))])]
  fnumL := [3, 8, 9, 10, 11, 27, 44, 61, 41, 42, 57, 58, 69, 56, 35, 51, 59, 60, 35, 51, 43, 45, 28, 46, 51, 47, 29, 91, 87, 48, 88, 89, 30, 49, 90, 13, 33, 15, 18, 35, 51, 36, 20, 37, 52, 65, 12, 31, 50, 40, 55, 62, 53, 63, 32, 25, 14, 34, 17, 16, 19, 21, 4, 22, 23, 38, 39, 54, 66, 67, 68, 70, 24, 5, 6, 7, 26]
  fnL := [Try.f3, Try.f8, Try.f9, Try.f10, Try.f11, Try.f27, Try.f44, Try.f61, Try.f41, Try.f42, Try.f57, Try.f58, Try.f69, Try.f56, Try.f35, Try.f51, Try.f59, Try.f60, Try.f35, Try.f51, Try.f43, Try.f45, Try.f28, Try.f46, Try.f51, Try.f47, Try.f29, Try.f91, Try.f87, Try.f48, Try.f88, Try.f89, Try.f30, Try.f49, Try.f90, Try.f13, Try.f33, Try.f15, Try.f18, Try.f35, Try.f51, Try.f36, Try.f20, Try.f37, Try.f52, Try.f65, Try.f12, Try.f31, Try.f50, Try.f40, Try.f55, Try.f62, Try.f53, Try.f63, Try.f32, Try.f25, Try.f14, Try.f34, Try.f17, Try.f16, Try.f19, Try.f21, Try.f4, Try.f22, Try.f23, Try.f38, Try.f39, Try.f54, Try.f66, Try.f67, Try.f68, Try.f70, Try.f24, Try.f5, Try.f6, Try.f7, Try.f26]
  placeL := [(0, []), (3, [true, true, false, true]), (7, [true, false, true]), (9, [true, true, true, false, true]), (15, [true, false, true]), (19, [true, false, true]), (0, []), (0, []), (0, []), (0, []), (0, []), (21, [true, true, false, true]), (21, [true, true, false, true, false, false, true, true, false, false, true, true]), (21, [true, true, false, true, false, false, true, true, false, false, true, true, false, false, true, false, true, true, true, true, true, true]), (0, []), (24, [true, false, true]), (23, [true, true, true, false, true]), (0, []), (29, []), (0, []), (0, []), (0, []), (33, [true, true, false]), (0, []), (0, []), (0, []), (0, []), (0, []), (0, []), (0, []), (0, []), (0, []), (0, []), (0, []), (0, []), (0, []), (4, [true, true, true, true, true, false, true]), (4, [true, true, true, true, true, false, true, false, false, true, true, false, false, true, false, true]), (4, [true, true, true, true, true, true, true, false]), (4, [true, true, true, true, true, true, true, false, false, false, true, false, true, true, true]), (0, []), (0, []), (0, []), (0, []), (0, []), (0, []), (0, []), (0, []), (0, []), (0, []), (0, []), (35, [true, true, true, true, false, true]), (35, [true, true, true, true, true, true, false, true]), (35, [true, true, true, true, true, true, true, false, true]), (37, [true, true, false, true]), (38, [true, true, false, true]), (40, [true, false, true]), (0, []), (0, []), (43, [true, true]), (43, [true, true, true, true, true, true, false]), (42, [true, true, true, false, true]), (42, [true, true, true, false, true, false, false, true, true, false, false, true, true]), (48, [true, true, false, true]), (48, [true, true, true, false, true]), (0, []), (0, []), (0, []), (54, [true, true, true]), (54, [true, true, true, false, false, false, true, false, true]), (54, [true, true, true, false, false, false, true, false, true, false, false, true, false, false, true, true, false, true]), (0, []), (0, []), (0, []), (0, []), (0, []), (0, []), (0, []), (0, []), (0, []), (0, []), (0, []), (0, []), (0, []), (56, [true, true, true, true, false, true]), (56, [true, true, true, true, true, true, false, true]), (56, [true, true, true, true, true, true, true, false, true]), (0, []), (58, [true, true, false, true]), (59, [true, true, false, true]), (60, [true, true, false, true]), (60, [true, true, false, true, false, false, true, false, false, true, true]), (0, []), (61, [true, true, true, false, true]), (61, [true, true, true, true, false, true]), (61, [true, true, true, true, false, true, false, false, true, false, false, true, true]), (63, [true, true, false, true]), (63, [true, true, true, false, true]), (0, []), (65, [true, true, false, true]), (0, []), (0, []), (0, []), (66, [true, true]), (66, [true, true, true, true, false, true]), (0, []), (0, []), (0, []), (0, []), (64, [true, true, true, true, true, true, false, true]), (64, [true, true, true, true, true, true, false, true, false, false, true, false, false, true, true, true, false, true]), (64, [true, true, true, true, true, true, false, true, false, false, true, false, false, true, true, true, true, true, true, false, true]), (72, [true, true, false, true]), (74, [true, true, true, true, true, true, false, true]), (74, [true, true, true, true, true, true, true, false, true]), (74, [true, true, true, true, true, true, true, false, true, false, false, true, false, false, true, false, true]), (75, [true, true, true, true, true, true, true, false, true]), (75, [true, true, true, true, true, true, true, false, true, false, false, true, false, false, true]), (76, [true, true, false, true])] }
noncomputable def T : Tbl := tabs.tbl fun _ _ => none

noncomputable def c0 (rf : T.RF) (d1 : XT) : Option Bool := rf 0 d1
noncomputable def c1 (rf : T.RF) (d1 : XT) : Option Bool := rf 1 d1
noncomputable def c2 (rf : T.RF) : Option Bool := rf 2 ()
noncomputable def c3 (rf : T.RF) (d1 : XT) : Option XT := rf 3 d1
noncomputable def c4 (rf : T.RF) (d1 : XT) : Option (List Int × Int) := rf 4 d1
noncomputable def c5 (rf : T.RF) (d1 : XT) : Option Int := rf 5 d1
noncomputable def c6 (rf : T.RF) (d1 : XT) (d2 : List XO) : Option (XT × Bool) := rf 6 (d1, d2)
noncomputable def c7 (rf : T.RF) (d1 : XT) (d2 : List XO) : Option (XT × Int) := rf 7 (d1, d2)
noncomputable def c8 (rf : T.RF) (d1 : XT) (d2 : XO) : Option (XT × Bool) := rf 8 (d1, d2)
noncomputable def c9 (rf : T.RF) (d1 : XT) (d2 : XO) : Option Bool := rf 9 (d1, d2)
noncomputable def c10 (rf : T.RF) (d1 : XO) : Option (List Int × List Int) := rf 10 d1
noncomputable def c11 (rf : T.RF) (d1 : Int) : Option Int := rf 11 d1
noncomputable def c12 (rf : T.RF) (d1 : Int) : Option Int := rf 12 d1
noncomputable def c13 (rf : T.RF) (d1 : XT) (d2 : Int) : Option (XT × Bool) := rf 13 (d1, d2)
noncomputable def c14 (rf : T.RF) (d1 : List Int) : Option Bool := rf 14 d1
noncomputable def c15 (rf : T.RF) (d1 : List Int) : Option Int := rf 15 d1
noncomputable def c16 (rf : T.RF) (d1 : Int) : Option Bool := rf 16 d1
noncomputable def c17 (rf : T.RF) (d1 : Int) : Option Bool := rf 17 d1
noncomputable def c18 (rf : T.RF) (d1 : XT) (d2 : List Int) : Option (XT × Bool) := rf 18 (d1, d2)
noncomputable def c19 (rf : T.RF) (d1 : XT) (d2 : List Int) : Option (XT × Int) := rf 19 (d1, d2)
noncomputable def c20 (rf : T.RF) (d1 : XT) (d2 : Int) : Option (XT × Bool) := rf 20 (d1, d2)
noncomputable def c21 (rf : T.RF) (d1 : XT) : Option Bool := rf 21 d1
noncomputable def c22 (rf : T.RF) (d1 : XO) : Option (List Int) := rf 22 d1
noncomputable def c23 (rf : T.RF) (d1 : List Int) : Option ((List Int) ⊕ (List Int)) := rf 23 d1
noncomputable def c24 (rf : T.RF) (d1 : List Int) : Option (List Int × Int) := rf 24 d1
noncomputable def c25 (rf : T.RF) (d1 : Int) : Option Bool := rf 25 d1
noncomputable def c26 (rf : T.RF) (d1 : List Int) (d2 : Int) : Option (List Int) := rf 26 (d1, d2)
noncomputable def c27 (rf : T.RF) (d1 : List Int) (d2 : Int) : Option (List Int) := rf 27 (d1, d2)
noncomputable def c28 (rf : T.RF) (d1 : List Int) : Option (List Int × Int) := rf 28 d1
noncomputable def c29 (rf : T.RF) (d1 : List Int) (d2 : Int) : Option (List Int) := rf 29 (d1, d2)
noncomputable def c30 (rf : T.RF) (d1 : List Int) (d2 : Int) (d3 : Int) : Option (List Int × Bool) := rf 30 (d1, d2, d3)
noncomputable def c31 (rf : T.RF) (d1 : List Int) (d2 : Int) (d3 : Int) : Option (List Int) := rf 31 (d1, d2, d3)
noncomputable def c32 (rf : T.RF) (d1 : List Int) : Option (List Int × Int) := rf 32 d1
noncomputable def c33 (rf : T.RF) (d1 : List Int) (d2 : Int) (d3 : Int) : Option (List Int × Bool) := rf 33 (d1, d2, d3)
noncomputable def c34 (rf : T.RF) (d1 : List Int) : Option (List Int × Int) := rf 34 d1
noncomputable def c35 (rf : T.RF) (d1 : XT) : Option (XT × Int) := rf 35 d1
noncomputable def c36 (rf : T.RF) (d1 : List Int) : Option (List Int) := rf 36 d1
noncomputable def c37 (rf : T.RF) (d1 : List Int) (d2 : List Int) : Option Bool := rf 37 (d1, d2)
noncomputable def c38 (rf : T.RF) (d1 : XT) : Option Bool := rf 38 d1
noncomputable def c39 (rf : T.RF) (d1 : Int) (d2 : List Int) : Option (Int × Bool) := rf 39 (d1, d2)
noncomputable def c40 (rf : T.RF) (d1 : Int) (d2 : List Int) : Option (Int × Int) := rf 40 (d1, d2)
noncomputable def c41 (rf : T.RF) (d1 : Int) (d2 : Int) : Option (Int × Bool) := rf 41 (d1, d2)
noncomputable def c42 (rf : T.RF) (d1 : XT) : Option (List Int) := rf 42 d1
noncomputable def c43 (rf : T.RF) (d1 : List Int) (d2 : Int) : Option (List Int) := rf 43 (d1, d2)
noncomputable def c44 (rf : T.RF) (d1 : Int) (d2 : Int) : Option (Int × Int) := rf 44 (d1, d2)
noncomputable def c45 (rf : T.RF) (d1 : Int) (d2 : Int) : Option (Int × Int) := rf 45 (d1, d2)
noncomputable def c46 (rf : T.RF) (d1 : XT) : Option (List Int × Int) := rf 46 d1
noncomputable def c47 (rf : T.RF) (d1 : XT) : Option Int := rf 47 d1
noncomputable def c48 (rf : T.RF) (d1 : XT) : Option Bool := rf 48 d1
noncomputable def c49 (rf : T.RF) (d1 : Int) : Option Int := rf 49 d1
noncomputable def c50 (rf : T.RF) (d1 : Int) : Option Int := rf 50 d1
noncomputable def c51 (rf : T.RF) (d1 : XT) (d2 : XO) : Option Bool := rf 51 (d1, d2)
noncomputable def c52 (rf : T.RF) (d1 : Int) : Option Bool := rf 52 d1
noncomputable def c53 (rf : T.RF) (d1 : XT) (d2 : Int) (d3 : Int) (d4 : Int) : Option Bool := rf 53 (d1, d2, d3, d4)
noncomputable def c54 (rf : T.RF) (d1 : XT) : Option (List Int) := rf 54 d1
noncomputable def c55 (rf : T.RF) (d1 : XO) : Option (List Int) := rf 55 d1
noncomputable def c56 (rf : T.RF) (d1 : XT) : Option (XT × Int) := rf 56 d1
noncomputable def c57 (rf : T.RF) (d1 : List Int) (d2 : Int) : Option Int := rf 57 (d1, d2)
noncomputable def c58 (rf : T.RF) (d1 : XT) : Option XT := rf 58 d1
noncomputable def c59 (rf : T.RF) (d1 : XT) (d2 : XT) : Option Bool := rf 59 (d1, d2)
noncomputable def c60 (rf : T.RF) (d1 : XT) : Option Bool := rf 60 d1
noncomputable def c61 (rf : T.RF) (d1 : XT) : Option (List Int) := rf 61 d1
noncomputable def c62 (rf : T.RF) (d1 : XT) (d2 : List (List Int)) : Option Bool := rf 62 (d1, d2)
noncomputable def c63 (rf : T.RF) (d1 : List (List UInt8 × Int × List (Int × Int × Int × Int × Int × List UInt8))) (d2 : List (List Int)) : Option Bool := rf 63 (d1, d2)
noncomputable def c64 (rf : T.RF) (d1 : XT) (d2 : List (List Int)) : Option (List (List Int) × Int) := rf 64 (d1, d2)
noncomputable def c65 (rf : T.RF) (d1 : XT) (d2 : List Int) : Option Bool := rf 65 (d1, d2)
noncomputable def c66 (rf : T.RF) (d1 : List Int) (d2 : XO) (d3 : List Int) (d4 : List Int) : Option (List Int × Int × Int) := rf 66 (d1, d2, d3, d4)
noncomputable def c67 (rf : T.RF) (d1 : Int) (d2 : Int) (d3 : Int) (d4 : Int) : Option (Int × Int) := rf 67 (d1, d2, d3, d4)
noncomputable def c68 (rf : T.RF) (d1 : Bool) : Option Int := rf 68 d1
noncomputable def c69 (rf : T.RF) (d1 : Int) : Option (Int × Int) := rf 69 d1
noncomputable def c70 (rf : T.RF) (d1 : Int) (d2 : Int) : Option (Int × Int) := rf 70 (d1, d2)
noncomputable def c71 (rf : T.RF) (d1 : Int) : Option Int := rf 71 d1
noncomputable def c72 (rf : T.RF) (d1 : List (List Int)) (d2 : List (List Int)) : Option Bool := rf 72 (d1, d2)
noncomputable def c73 (rf : T.RF) (d1 : XT) : Option Bool := rf 73 d1
noncomputable def c74 (rf : T.RF) (d1 : XT) : Option Bool := rf 74 d1
noncomputable def c75 (rf : T.RF) (d1 : XT) : Option Bool := rf 75 d1
noncomputable def c76 (rf : T.RF) (d1 : XO) (d2 : Int) : Option Bool := rf 76 (d1, d2)
noncomputable def k1 (rb : T.RB) (d1 : XT) (d2 : List Int) (d3 : List Int) (d4 : List XO) (d5 : Int) : Option (XT × List Int × List Int × List XO) := rb 1 (d1, d2, d3, d4, d5)
noncomputable def k2 (rb : T.RB) (d1 : XT) (d2 : List XO) (d3 : Int) (d4 : Int) : Option ((XT × Int) ⊕ XT) := rb 2 (d1, d2, d3, d4)
noncomputable def k3 (rb : T.RB) (d1 : XT) (d2 : List Int) (d3 : Int) (d4 : Int) : Option ((XT × Bool) ⊕ XT) := rb 3 (d1, d2, d3, d4)
noncomputable def k4 (rb : T.RB) (d1 : List Int) (d2 : Int) (d3 : Int) : Option (Int ⊕ Unit) := rb 4 (d1, d2, d3)
noncomputable def k5 (rb : T.RB) (d1 : XT) (d2 : List Int) (d3 : Int) (d4 : Int) : Option ((XT × Int) ⊕ XT) := rb 5 (d1, d2, d3, d4)
noncomputable def k11 (rb : T.RB) (d1 : XT) (d2 : List Int) (d3 : Int) (d4 : Int) : Option ((XT × List Int × Bool) ⊕ (XT × List Int)) := rb 11 (d1, d2, d3, d4)
noncomputable def k12 (rb : T.RB) (d1 : XT) (d2 : List Int) (d3 : List Int) : Option ((XT × List Int × Bool) ⊕ (XT × List Int)) := rb 12 (d1, d2, d3)
noncomputable def k13 (rb : T.RB) (d1 : List Int) (d2 : List Int) (d3 : List Int) (d4 : Int) (d5 : Int) : Option ((List Int × Bool) ⊕ (List Int × List Int)) := rb 13 (d1, d2, d3, d4, d5)
noncomputable def k15 (rb : T.RB) (d1 : List Int) (d2 : Int) (d3 : Int) : Option ((List Int × Int) ⊕ (List Int)) := rb 15 (d1, d2, d3)
noncomputable def k16 (rb : T.RB) (d1 : List Int) (d2 : Int) (d3 : Int) : Option (List Int × Int) := rb 16 (d1, d2, d3)
noncomputable def k18 (rb : T.RB) (d1 : List Int) (d2 : Int) : Option (List Int) := rb 18 (d1, d2)
noncomputable def k22 (rb : T.RB) (d1 : List Int) (d2 : Int) (d3 : Int) : Option (List Int × Int) := rb 22 (d1, d2, d3)
noncomputable def k36 (rb : T.RB) (d1 : List Int) (d2 : List (List Int)) (d3 : List Int) (d4 : List XO) (d5 : Int) (d6 : Int) : Option (List Int × List (List Int) × List Int) := rb 36 (d1, d2, d3, d4, d5, d6)
noncomputable def k37 (rb : T.RB) (d1 : List Int) (d2 : List (List Int)) (d3 : List Int) (d4 : Int) (d5 : Int) (d6 : Int) : Option (List Int × List (List Int) × List Int) := rb 37 (d1, d2, d3, d4, d5, d6)
noncomputable def k38 (rb : T.RB) (d1 : List Int) (d2 : List Int) (d3 : List Int) (d4 : List (List Int)) : Option (List Int × List Int × List Int) := rb 38 (d1, d2, d3, d4)
noncomputable def k39 (rb : T.RB) (d1 : List Int) (d2 : List Int) (d3 : List Int) (d4 : Int) (d5 : Int) : Option (List Int × List Int) := rb 39 (d1, d2, d3, d4, d5)
noncomputable def k51 (rb : T.RB) (d1 : List Int) (d2 : List Int) (d3 : Int) (d4 : Int) : Option (List Int × List Int) := rb 51 (d1, d2, d3, d4)
noncomputable def k52 (rb : T.RB) (d1 : XT) (d2 : List Int) (d3 : List Int) (d4 : List XO) (d5 : List Int) (d6 : List Int) (d7 : Int) (d8 : Int) : Option (XT × List Int × List Int × List Int × List Int × List XO) := rb 52 (d1, d2, d3, d4, d5, d6, d7, d8)
noncomputable def k53 (rb : T.RB) (d1 : List Int) (d2 : List XO) (d3 : List Int) (d4 : List Int) (d5 : List Int) (d6 : Int) (d7 : Int) : Option (List Int × XT) := rb 53 (d1, d2, d3, d4, d5, d6, d7)
noncomputable def k54 (rb : T.RB) (d1 : List Int) (d2 : List Int) (d3 : Int) : Option (Bool ⊕ Unit) := rb 54 (d1, d2, d3)
noncomputable def k55 (rb : T.RB) (d1 : List XO) (d2 : Int) (d3 : Int) : Option (Bool ⊕ Unit) := rb 55 (d1, d2, d3)
noncomputable def k56 (rb : T.RB) (d1 : Int) (d2 : List Int) (d3 : Int) (d4 : Int) : Option ((Int × Int) ⊕ Int) := rb 56 (d1, d2, d3, d4)
noncomputable def k59 (rb : T.RB) (d1 : List Int) (d2 : Int) : Option (List Int) := rb 59 (d1, d2)
noncomputable def k60 (rb : T.RB) (d1 : List Int) (d2 : Int) : Option (List Int) := rb 60 (d1, d2)
noncomputable def k61 (rb : T.RB) (d1 : List Int) (d2 : List XO) (d3 : Int) (d4 : Int) : Option (List Int) := rb 61 (d1, d2, d3, d4)
noncomputable def k62 (rb : T.RB) (d1 : List Int) (d2 : List Int) (d3 : Int) (d4 : Int) (d5 : Int) : Option (List Int × List Int) := rb 62 (d1, d2, d3, d4, d5)
noncomputable def k63 (rb : T.RB) (d1 : XT) (d2 : Int) : Option ((XT × Bool) ⊕ XT) := rb 63 (d1, d2)
noncomputable def k64 (rb : T.RB) (d1 : XT) (d2 : Int) : Option ((XT × Bool) ⊕ XT) := rb 64 (d1, d2)
noncomputable def k68 (rb : T.RB) (d1 : XT) (d2 : List Bool) (d3 : List Int) : Option (XT × List Bool × List Int) := rb 68 (d1, d2, d3)
noncomputable def k69 (rb : T.RB) (d1 : XT) (d2 : List Bool) (d3 : Int) (d4 : Int) : Option (XT × List Bool × Int) := rb 69 (d1, d2, d3, d4)
noncomputable def k70 (rb : T.RB) (d1 : List Bool) (d2 : List Int) (d3 : Bool) (d4 : Int) : Option (List Bool × List Int × Bool) := rb 70 (d1, d2, d3, d4)
noncomputable def k84 (rb : T.RB) (d1 : List Int) (d2 : List Int) (d3 : Int) : Option (List Int × List Int) := rb 84 (d1, d2, d3)
noncomputable def k85 (rb : T.RB) (d1 : XT) (d2 : List Int) (d3 : List XO) (d4 : List Int) (d5 : List Int) (d6 : List Int) (d7 : Int) : Option (XT × List Int × List Int × List Int × List XO) := rb 85 (d1, d2, d3, d4, d5, d6, d7)
noncomputable def k86 (rb : T.RB) (d1 : XT) (d2 : List XO) (d3 : List Int) (d4 : List Int) (d5 : List Int) (d6 : Int) : Option (XT × XT) := rb 86 (d1, d2, d3, d4, d5, d6)
noncomputable def k88 (rb : T.RB) (d1 : XT) (d2 : List Int) (d3 : List Int) (d4 : List XO) (d5 : Int) : Option (XT × List Int × List Int × List XO) := rb 88 (d1, d2, d3, d4, d5)
noncomputable def k89 (rb : T.RB) (d1 : XT) (d2 : XT) (d3 : Int) : Option ((XT × XT × Bool) ⊕ (XT × XT)) := rb 89 (d1, d2, d3)
noncomputable def k90 (rb : T.RB) (d1 : XT) (d2 : Int) : Option ((XT × Bool) ⊕ XT) := rb 90 (d1, d2)
noncomputable def k91 (rb : T.RB) (d1 : List Int) (d2 : Int) (d3 : Int) : Option ((List Int × Bool) ⊕ (List Int)) := rb 91 (d1, d2, d3)
noncomputable def k93 (rb : T.RB) (d1 : XT) (d2 : List Int) (d3 : Int) : Option (XT × List Int) := rb 93 (d1, d2, d3)
noncomputable def k94 (rb : T.RB) (d1 : XT) (d2 : List Int) (d3 : Int) : Option (XT × List Int) := rb 94 (d1, d2, d3)
noncomputable def k95 (rb : T.RB) (d1 : List Int) (d2 : List Int) (d3 : Int) (d4 : Int) : Option (List Int × List Int) := rb 95 (d1, d2, d3, d4)
noncomputable def k96 (rb : T.RB) (d1 : List (List UInt8 × Int × List (Int × Int × Int × Int × Int × List UInt8))) (d2 : Int) : Option (Bool ⊕ Unit) := rb 96 (d1, d2)
noncomputable def k97 (rb : T.RB) (d1 : List (List Int)) (d2 : Int) : Option (Bool ⊕ Unit) := rb 97 (d1, d2)
noncomputable def k99 (rb : T.RB) (d1 : XT) (d2 : List Int) (d3 : Int) : Option ((XT × Bool) ⊕ XT) := rb 99 (d1, d2, d3)
noncomputable def k103 (rb : T.RB) (d1 : List Int) (d2 : XO) : Option (List Int × XO × Int × Int) := rb 103 (d1, d2)
noncomputable def k104 (rb : T.RB) (d1 : List Int) (d2 : List Int) (d3 : List Int) (d4 : Int) : Option (List Int × List Int × List Int) := rb 104 (d1, d2, d3, d4)
noncomputable def k109 (rb : T.RB) (d1 : XT) (d2 : List Int) (d3 : List (List Int)) (d4 : List (List Int)) (d5 : List Int) (d6 : Int) : Option ((XT × List Int × List (List Int) × Int) ⊕ (XT × List Int × List (List Int))) := rb 109 (d1, d2, d3, d4, d5, d6)
noncomputable def k110 (rb : T.RB) (d1 : XT) (d2 : List Int) (d3 : List Int) (d4 : List (List Int)) (d5 : List Int) (d6 : Int) (d7 : Int) (d8 : Int) : Option (XT × List Int × List Int × Int) := rb 110 (d1, d2, d3, d4, d5, d6, d7, d8)
noncomputable def k111 (rb : T.RB) (d1 : XT) (d2 : List Int) (d3 : List Int) (d4 : Int) : Option (XT × List Int × List Int) := rb 111 (d1, d2, d3, d4)
noncomputable def k112 (rb : T.RB) (d1 : List (List Int)) (d2 : List (List Int)) (d3 : Int) : Option (Bool ⊕ Unit) := rb 112 (d1, d2, d3)
noncomputable def k113 (rb : T.RB) (d1 : List Int) (d2 : List Int) (d3 : Int) : Option ((List Int × List Int × Bool) ⊕ (List Int × List Int)) := rb 113 (d1, d2, d3)
noncomputable def k114 (rb : T.RB) (d1 : XT) (d2 : List Int) (d3 : Int) : Option ((XT × List Int × Bool) ⊕ (XT × List Int)) := rb 114 (d1, d2, d3)
noncomputable def k115 (rb : T.RB) (d1 : List Int) (d2 : List Int) (d3 : Int) (d4 : Int) : Option ((List Int × List Int × Bool) ⊕ (List Int × List Int)) := rb 115 (d1, d2, d3, d4)
noncomputable def k116 (rb : T.RB) (d1 : XT) (d2 : List Int) (d3 : Int) : Option ((XT × List Int × Bool) ⊕ (XT × List Int)) := rb 116 (d1, d2, d3)
noncomputable def k117 (rb : T.RB) (d1 : XT) (d2 : List Int) (d3 : Int) (d4 : Int) : Option ((XT × List Int × Bool) ⊕ (XT × List Int)) := rb 117 (d1, d2, d3, d4)
noncomputable def k118 (rb : T.RB) (d1 : List Int) (d2 : Int) (d3 : Int) : Option ((List Int × Bool) ⊕ (List Int)) := rb 118 (d1, d2, d3)

/- bailmentref14.Small -/
noncomputable def r1 (rf : T.RF) (rb : T.RB) (d1 : XT) : Option Bool :=
  bif decide ((((d1.1.length : Nat) : Int)) ≤ 300) then
    bif decide ((((d1.2.1.length : Nat) : Int)) ≤ 60) then
      some (decide ((((d1.2.2.length : Nat) : Int)) ≤ 60))
    else
      some false
  else
    some false
theorem er1 (rf : T.RF) (rb : T.RB) (d1 : XT) : T.stepF rf rb 1 d1 = r1 rf rb d1 := by kernel_rfl
theorem or1 {d1 : XT} {y : Bool} (h : r1 T.rf T.rb d1 = some y) : c1 T.rf d1 = some y := T.rf_of (f := 1) (d := d1) ((er1 T.rf T.rb d1).trans h)

/- bailmentlaw14.Own loop 0 -/
noncomputable def b1 (rf : T.RF) (rb : T.RB) (d1 : XT) (d2 : List Int) (d3 : List Int) (d4 : List XO) (d5 : Int) : Option (XT × List Int × List Int × List XO) :=
  bif decide (d5 < (((d1.1.length : Nat) : Int))) then
    bif inb d5 d1.1.length then
      (nth d1.1 d5.toNat).bind fun (x1 : XO) =>
      bif (Nat.ble (d4.length + 1) most) && true then
        k1 rb d1 d2 d3 (d4 ++ [x1]) (IntKind.i64.wrap (d5 + 1))
      else
        none
    else
      none
  else
    some (d1, d2, d3, d4)
theorem eb1 (rf : T.RF) (rb : T.RB) (d1 : XT) (d2 : List Int) (d3 : List Int) (d4 : List XO) (d5 : Int) : T.stepB rf rb 1 (d1, d2, d3, d4, d5) = b1 rf rb d1 d2 d3 d4 d5 := by kernel_rfl
theorem ob1 {d1 : XT} {d2 : List Int} {d3 : List Int} {d4 : List XO} {d5 : Int} {y : (XT × List Int × List Int × List XO)} (h : b1 T.rf T.rb d1 d2 d3 d4 d5 = some y) : k1 T.rb d1 d2 d3 d4 d5 = some y := T.rb_of (κ := 1) (d := (d1, d2, d3, d4, d5)) ((eb1 T.rf T.rb d1 d2 d3 d4 d5).trans h)

/- bailmentlaw14.Own -/
noncomputable def r3 (rf : T.RF) (rb : T.RB) (d1 : XT) : Option XT :=
  (k1 rb d1 d1.2.1 d1.2.2 [] 0).bind fun (z1 : XT × List Int × List Int × List XO) =>
  some (z1.2.2.2, z1.2.1, z1.2.2.1)
theorem er3 (rf : T.RF) (rb : T.RB) (d1 : XT) : T.stepF rf rb 3 d1 = r3 rf rb d1 := by kernel_rfl
theorem or3 {d1 : XT} {y : XT} (h : r3 T.rf T.rb d1 = some y) : c3 T.rf d1 = some y := T.rf_of (f := 3) (d := d1) ((er3 T.rf T.rb d1).trans h)

/- num.Operands -/
noncomputable def r12 (rf : T.RF) (rb : T.RB) (d1 : Int) : Option Int :=
  bif d1 == 4 then
    some 1
  else
  bif d1 == 5 then
    some 1
  else
  bif decide (d1 ≥ 6) then
    bif decide (d1 ≤ 18) then
      some 2
    else
    bif d1 == 26 then
      some 3
    else
      some (-1)
  else
  bif d1 == 26 then
    some 3
  else
    some (-1)
theorem er12 (rf : T.RF) (rb : T.RB) (d1 : Int) : T.stepF rf rb 12 d1 = r12 rf rb d1 := by kernel_rfl
theorem or12 {d1 : Int} {y : Int} (h : r12 T.rf T.rb d1 = some y) : c12 T.rf d1 = some y := T.rf_of (f := 12) (d := d1) ((er12 T.rf T.rb d1).trans h)

/- norm.operands -/
noncomputable def r11 (rf : T.RF) (rb : T.RB) (d1 : Int) : Option Int :=
  bif d1 == 3 then
    bif d1 == 3 then
      some 0
    else
    bif d1 == 21 then
      some 1
    else
    bif d1 == 19 then
      some 2
    else
      (c12 rf d1).bind fun (y1 : Int) =>
      some y1
  else
  bif d1 == 1 then
    bif d1 == 1 then
      some 0
    else
    bif d1 == 21 then
      some 1
    else
    bif d1 == 19 then
      some 2
    else
      (c12 rf d1).bind fun (y2 : Int) =>
      some y2
  else
  bif d1 == 2 then
    some 0
  else
  bif d1 == 21 then
    some 1
  else
  bif d1 == 19 then
    some 2
  else
    (c12 rf d1).bind fun (y3 : Int) =>
    some y3
theorem er11 (rf : T.RF) (rb : T.RB) (d1 : Int) : T.stepF rf rb 11 d1 = r11 rf rb d1 := by kernel_rfl
theorem or11 {d1 : Int} {y : Int} (h : r11 T.rf T.rb d1 = some y) : c11 T.rf d1 = some y := T.rf_of (f := 11) (d := d1) ((er11 T.rf T.rb d1).trans h)

/- (bailment/norm.Op).fields -/
noncomputable def r10 (rf : T.RF) (rb : T.RB) (d1 : XO) : Option (List Int × List Int) :=
  (c11 rf d1.1).bind fun (y1 : Int) =>
  bif inb' (if 0 > y1 then 0 else y1) 3 then
    bif inb' (if 0 > y1 then 0 else y1) 3 then
      some (sub [d1.2.1, d1.2.2.1, d1.2.2.2.1] (some (0, ((if 0 > y1 then 0 else y1).toNat - 0))), sub [d1.2.1, d1.2.2.1, d1.2.2.2.1] (some ((if 0 > y1 then 0 else y1).toNat, (3 - (if 0 > y1 then 0 else y1).toNat))))
    else
      none
  else
    none
theorem er10 (rf : T.RF) (rb : T.RB) (d1 : XO) : T.stepF rf rb 10 d1 = r10 rf rb d1 := by kernel_rfl
theorem or10 {d1 : XO} {y : (List Int × List Int)} (h : r10 T.rf T.rb d1 = some y) : c10 T.rf d1 = some y := T.rf_of (f := 10) (d := d1) ((er10 T.rf T.rb d1).trans h)

/- (bailment/norm.Net).may$1 -/
noncomputable def r13 (rf : T.RF) (rb : T.RB) (d1 : XT) (d2 : Int) : Option (XT × Bool) :=
  bif decide (d2 ≥ 0) then
    some (d1, decide (d2 < (((d1.1.length : Nat) : Int))))
  else
    some (d1, false)
theorem er13 (rf : T.RF) (rb : T.RB) (d1 : XT) (d2 : Int) : T.stepF rf rb 13 (d1, d2) = r13 rf rb d1 d2 := by kernel_rfl
theorem or13 {d1 : XT} {d2 : Int} {y : (XT × Bool)} (h : r13 T.rf T.rb d1 d2 = some y) : c13 T.rf d1 d2 = some y := T.rf_of (f := 13) (d := (d1, d2)) ((er13 T.rf T.rb d1 d2).trans h)

/- (bailment/norm.Net).may$2 -/
noncomputable def r16 (rf : T.RF) (rb : T.RB) (d1 : Int) : Option Bool :=
  some (d1 != (-1))
theorem er16 (rf : T.RF) (rb : T.RB) (d1 : Int) : T.stepF rf rb 16 d1 = r16 rf rb d1 := by kernel_rfl
theorem or16 {d1 : Int} {y : Bool} (h : r16 T.rf T.rb d1 = some y) : c16 T.rf d1 = some y := T.rf_of (f := 16) (d := d1) ((er16 T.rf T.rb d1).trans h)

/- slices.IndexFunc[[]int,int] loop 0 -/
noncomputable def b4 (rf : T.RF) (rb : T.RB) (d1 : List Int) (d2 : Int) (d3 : Int) : Option (Int ⊕ Unit) :=
  bif decide (d3 < d2) then
    bif inb d3 d1.length then
      (nth d1 d3.toNat).bind fun (x1 : Int) =>
      (c16 rf x1).bind fun (y2 : Bool) =>
      bif y2 then
        some (.inl d3)
      else
        k4 rb d1 d2 (IntKind.i64.wrap (d3 + 1))
    else
      none
  else
    some (.inr ())
theorem eb4 (rf : T.RF) (rb : T.RB) (d1 : List Int) (d2 : Int) (d3 : Int) : T.stepB rf rb 4 (d1, d2, d3) = b4 rf rb d1 d2 d3 := by kernel_rfl
theorem ob4 {d1 : List Int} {d2 : Int} {d3 : Int} {y : (Int ⊕ Unit)} (h : b4 T.rf T.rb d1 d2 d3 = some y) : k4 T.rb d1 d2 d3 = some y := T.rb_of (κ := 4) (d := (d1, d2, d3)) ((eb4 T.rf T.rb d1 d2 d3).trans h)

/- slices.IndexFunc[[]int,int] -/
noncomputable def r15 (rf : T.RF) (rb : T.RB) (d1 : List Int) : Option Int :=
  (k4 rb d1 (((d1.length : Nat) : Int)) 0).bind fun (z1 : Int ⊕ Unit) =>
  match z1 with
  | .inl u2 =>
    some u2
  | .inr w3 =>
    some (-1)
theorem er15 (rf : T.RF) (rb : T.RB) (d1 : List Int) : T.stepF rf rb 15 d1 = r15 rf rb d1 := by kernel_rfl
theorem or15 {d1 : List Int} {y : Int} (h : r15 T.rf T.rb d1 = some y) : c15 T.rf d1 = some y := T.rf_of (f := 15) (d := d1) ((er15 T.rf T.rb d1).trans h)

/- slices.ContainsFunc[[]int,int] -/
noncomputable def r14 (rf : T.RF) (rb : T.RB) (d1 : List Int) : Option Bool :=
  (c15 rf d1).bind fun (y1 : Int) =>
  some (decide (y1 ≥ 0))
theorem er14 (rf : T.RF) (rb : T.RB) (d1 : List Int) : T.stepF rf rb 14 d1 = r14 rf rb d1 := by kernel_rfl
theorem or14 {d1 : List Int} {y : Bool} (h : r14 T.rf T.rb d1 = some y) : c14 T.rf d1 = some y := T.rf_of (f := 14) (d := d1) ((er14 T.rf T.rb d1).trans h)

/- num.Fits -/
noncomputable def r17 (rf : T.RF) (rb : T.RB) (d1 : Int) : Option Bool :=
  some ((IntKind.i64.wrap (IntKind.i32.wrap d1)) == d1)
theorem er17 (rf : T.RF) (rb : T.RB) (d1 : Int) : T.stepF rf rb 17 d1 = r17 rf rb d1 := by kernel_rfl
theorem or17 {d1 : Int} {y : Bool} (h : r17 T.rf T.rb d1 = some y) : c17 T.rf d1 = some y := T.rf_of (f := 17) (d := d1) ((er17 T.rf T.rb d1).trans h)

/- (bailment/norm.Net).may loop 0 -/
noncomputable def b3 (rf : T.RF) (rb : T.RB) (d1 : XT) (d2 : List Int) (d3 : Int) (d4 : Int) : Option ((XT × Bool) ⊕ XT) :=
  bif decide (d4 < d3) then
    bif inb d4 d2.length then
      (nth d2 d4.toNat).bind fun (x1 : Int) =>
      (c13 rf d1 x1).bind fun (y2 : XT × Bool) =>
      bif !y2.2 then
        some (.inl (y2.1, false))
      else
        k3 rb y2.1 d2 d3 (IntKind.i64.wrap (d4 + 1))
    else
      none
  else
    some (.inr d1)
theorem eb3 (rf : T.RF) (rb : T.RB) (d1 : XT) (d2 : List Int) (d3 : Int) (d4 : Int) : T.stepB rf rb 3 (d1, d2, d3, d4) = b3 rf rb d1 d2 d3 d4 := by kernel_rfl
theorem ob3 {d1 : XT} {d2 : List Int} {d3 : Int} {d4 : Int} {y : ((XT × Bool) ⊕ XT)} (h : b3 T.rf T.rb d1 d2 d3 d4 = some y) : k3 T.rb d1 d2 d3 d4 = some y := T.rb_of (κ := 3) (d := (d1, d2, d3, d4)) ((eb3 T.rf T.rb d1 d2 d3 d4).trans h)

/- (bailment/norm.Net).may -/
noncomputable def r9 (rf : T.RF) (rb : T.RB) (d1 : XT) (d2 : XO) : Option Bool :=
  (c10 rf d2).bind fun (y1 : List Int × List Int) =>
  (k3 rb d1 y1.1 (((y1.1.length : Nat) : Int)) 0).bind fun (z2 : (XT × Bool) ⊕ XT) =>
  match z2 with
  | .inl u3 =>
    some u3.2
  | .inr w4 =>
    (c11 rf d2.1).bind fun (y5 : Int) =>
    bif decide (y5 < 0) then
      some false
    else
      (c14 rf y1.2).bind fun (y6 : Bool) =>
      bif y6 then
        some false
      else
      bif d2.1 == 3 then
        bif decide (d2.2.2.2.2 ≥ 0) then
          some (decide (d2.2.2.2.2 < (((w4.2.2.length : Nat) : Int))))
        else
          some false
      else
      bif d2.1 == 1 then
        (c17 rf d2.2.2.2.2).bind fun (y7 : Bool) =>
        some y7
      else
      bif d2.1 == 2 then
        bif d2.2.2.2.2 == 0 then
          some true
        else
          some (d2.2.2.2.2 == 1)
      else
        some (d2.2.2.2.2 == 0)
theorem er9 (rf : T.RF) (rb : T.RB) (d1 : XT) (d2 : XO) : T.stepF rf rb 9 (d1, d2) = r9 rf rb d1 d2 := by kernel_rfl
theorem or9 {d1 : XT} {d2 : XO} {y : Bool} (h : r9 T.rf T.rb d1 d2 = some y) : c9 T.rf d1 d2 = some y := T.rf_of (f := 9) (d := (d1, d2)) ((er9 T.rf T.rb d1 d2).trans h)

/- norm.Check$1 -/
noncomputable def r8 (rf : T.RF) (rb : T.RB) (d1 : XT) (d2 : XO) : Option (XT × Bool) :=
  (c9 rf d1 d2).bind fun (y1 : Bool) =>
  some (d1, !y1)
theorem er8 (rf : T.RF) (rb : T.RB) (d1 : XT) (d2 : XO) : T.stepF rf rb 8 (d1, d2) = r8 rf rb d1 d2 := by kernel_rfl
theorem or8 {d1 : XT} {d2 : XO} {y : (XT × Bool)} (h : r8 T.rf T.rb d1 d2 = some y) : c8 T.rf d1 d2 = some y := T.rf_of (f := 8) (d := (d1, d2)) ((er8 T.rf T.rb d1 d2).trans h)

/- slices.IndexFunc[[]bailment/norm.Op,bailment/norm.Op] loop 0 -/
noncomputable def b2 (rf : T.RF) (rb : T.RB) (d1 : XT) (d2 : List XO) (d3 : Int) (d4 : Int) : Option ((XT × Int) ⊕ XT) :=
  bif decide (d4 < d3) then
    bif inb d4 d2.length then
      (nth d2 d4.toNat).bind fun (x1 : XO) =>
      (c8 rf d1 x1).bind fun (y2 : XT × Bool) =>
      bif y2.2 then
        some (.inl (y2.1, d4))
      else
        k2 rb y2.1 d2 d3 (IntKind.i64.wrap (d4 + 1))
    else
      none
  else
    some (.inr d1)
theorem eb2 (rf : T.RF) (rb : T.RB) (d1 : XT) (d2 : List XO) (d3 : Int) (d4 : Int) : T.stepB rf rb 2 (d1, d2, d3, d4) = b2 rf rb d1 d2 d3 d4 := by kernel_rfl
theorem ob2 {d1 : XT} {d2 : List XO} {d3 : Int} {d4 : Int} {y : ((XT × Int) ⊕ XT)} (h : b2 T.rf T.rb d1 d2 d3 d4 = some y) : k2 T.rb d1 d2 d3 d4 = some y := T.rb_of (κ := 2) (d := (d1, d2, d3, d4)) ((eb2 T.rf T.rb d1 d2 d3 d4).trans h)

/- slices.IndexFunc[[]bailment/norm.Op,bailment/norm.Op] -/
noncomputable def r7 (rf : T.RF) (rb : T.RB) (d1 : XT) (d2 : List XO) : Option (XT × Int) :=
  (k2 rb d1 d2 (((d2.length : Nat) : Int)) 0).bind fun (z1 : (XT × Int) ⊕ XT) =>
  match z1 with
  | .inl u2 =>
    some u2
  | .inr w3 =>
    some (w3, (-1))
theorem er7 (rf : T.RF) (rb : T.RB) (d1 : XT) (d2 : List XO) : T.stepF rf rb 7 (d1, d2) = r7 rf rb d1 d2 := by kernel_rfl
theorem or7 {d1 : XT} {d2 : List XO} {y : (XT × Int)} (h : r7 T.rf T.rb d1 d2 = some y) : c7 T.rf d1 d2 = some y := T.rf_of (f := 7) (d := (d1, d2)) ((er7 T.rf T.rb d1 d2).trans h)

/- slices.ContainsFunc[[]bailment/norm.Op,bailment/norm.Op] -/
noncomputable def r6 (rf : T.RF) (rb : T.RB) (d1 : XT) (d2 : List XO) : Option (XT × Bool) :=
  (c7 rf d1 d2).bind fun (y1 : XT × Int) =>
  some (y1.1, decide (y1.2 ≥ 0))
theorem er6 (rf : T.RF) (rb : T.RB) (d1 : XT) (d2 : List XO) : T.stepF rf rb 6 (d1, d2) = r6 rf rb d1 d2 := by kernel_rfl
theorem or6 {d1 : XT} {d2 : List XO} {y : (XT × Bool)} (h : r6 T.rf T.rb d1 d2 = some y) : c6 T.rf d1 d2 = some y := T.rf_of (f := 6) (d := (d1, d2)) ((er6 T.rf T.rb d1 d2).trans h)

/- norm.Check$2 -/
noncomputable def r20 (rf : T.RF) (rb : T.RB) (d1 : XT) (d2 : Int) : Option (XT × Bool) :=
  bif decide (d2 < 0) then
    some (d1, true)
  else
    some (d1, decide (d2 ≥ (((d1.1.length : Nat) : Int))))
theorem er20 (rf : T.RF) (rb : T.RB) (d1 : XT) (d2 : Int) : T.stepF rf rb 20 (d1, d2) = r20 rf rb d1 d2 := by kernel_rfl
theorem or20 {d1 : XT} {d2 : Int} {y : (XT × Bool)} (h : r20 T.rf T.rb d1 d2 = some y) : c20 T.rf d1 d2 = some y := T.rf_of (f := 20) (d := (d1, d2)) ((er20 T.rf T.rb d1 d2).trans h)

/- slices.IndexFunc[[]int,int] loop 0 -/
noncomputable def b5 (rf : T.RF) (rb : T.RB) (d1 : XT) (d2 : List Int) (d3 : Int) (d4 : Int) : Option ((XT × Int) ⊕ XT) :=
  bif decide (d4 < d3) then
    bif inb d4 d2.length then
      (nth d2 d4.toNat).bind fun (x1 : Int) =>
      (c20 rf d1 x1).bind fun (y2 : XT × Bool) =>
      bif y2.2 then
        some (.inl (y2.1, d4))
      else
        k5 rb y2.1 d2 d3 (IntKind.i64.wrap (d4 + 1))
    else
      none
  else
    some (.inr d1)
theorem eb5 (rf : T.RF) (rb : T.RB) (d1 : XT) (d2 : List Int) (d3 : Int) (d4 : Int) : T.stepB rf rb 5 (d1, d2, d3, d4) = b5 rf rb d1 d2 d3 d4 := by kernel_rfl
theorem ob5 {d1 : XT} {d2 : List Int} {d3 : Int} {d4 : Int} {y : ((XT × Int) ⊕ XT)} (h : b5 T.rf T.rb d1 d2 d3 d4 = some y) : k5 T.rb d1 d2 d3 d4 = some y := T.rb_of (κ := 5) (d := (d1, d2, d3, d4)) ((eb5 T.rf T.rb d1 d2 d3 d4).trans h)

/- slices.IndexFunc[[]int,int] -/
noncomputable def r19 (rf : T.RF) (rb : T.RB) (d1 : XT) (d2 : List Int) : Option (XT × Int) :=
  (k5 rb d1 d2 (((d2.length : Nat) : Int)) 0).bind fun (z1 : (XT × Int) ⊕ XT) =>
  match z1 with
  | .inl u2 =>
    some u2
  | .inr w3 =>
    some (w3, (-1))
theorem er19 (rf : T.RF) (rb : T.RB) (d1 : XT) (d2 : List Int) : T.stepF rf rb 19 (d1, d2) = r19 rf rb d1 d2 := by kernel_rfl
theorem or19 {d1 : XT} {d2 : List Int} {y : (XT × Int)} (h : r19 T.rf T.rb d1 d2 = some y) : c19 T.rf d1 d2 = some y := T.rf_of (f := 19) (d := (d1, d2)) ((er19 T.rf T.rb d1 d2).trans h)

/- slices.ContainsFunc[[]int,int] -/
noncomputable def r18 (rf : T.RF) (rb : T.RB) (d1 : XT) (d2 : List Int) : Option (XT × Bool) :=
  (c19 rf d1 d2).bind fun (y1 : XT × Int) =>
  some (y1.1, decide (y1.2 ≥ 0))
theorem er18 (rf : T.RF) (rb : T.RB) (d1 : XT) (d2 : List Int) : T.stepF rf rb 18 (d1, d2) = r18 rf rb d1 d2 := by kernel_rfl
theorem or18 {d1 : XT} {d2 : List Int} {y : (XT × Bool)} (h : r18 T.rf T.rb d1 d2 = some y) : c18 T.rf d1 d2 = some y := T.rf_of (f := 18) (d := (d1, d2)) ((er18 T.rf T.rb d1 d2).trans h)

/- (bailment/norm.Net).goesRound loop 0 -/
noncomputable def b11 (rf : T.RF) (rb : T.RB) (d1 : XT) (d2 : List Int) (d3 : Int) (d4 : Int) : Option ((XT × List Int × Bool) ⊕ (XT × List Int)) :=
  bif decide (d4 < d3) then
    (k12 rb d1 d2 [d4]).bind fun (z1 : (XT × List Int × Bool) ⊕ (XT × List Int)) =>
    match z1 with
    | .inl u2 =>
      some (.inl u2)
    | .inr w3 =>
      k11 rb w3.1 w3.2 d3 (IntKind.i64.wrap (d4 + 1))
  else
    some (.inr (d1, d2))
theorem eb11 (rf : T.RF) (rb : T.RB) (d1 : XT) (d2 : List Int) (d3 : Int) (d4 : Int) : T.stepB rf rb 11 (d1, d2, d3, d4) = b11 rf rb d1 d2 d3 d4 := by kernel_rfl
theorem ob11 {d1 : XT} {d2 : List Int} {d3 : Int} {d4 : Int} {y : ((XT × List Int × Bool) ⊕ (XT × List Int))} (h : b11 T.rf T.rb d1 d2 d3 d4 = some y) : k11 T.rb d1 d2 d3 d4 = some y := T.rb_of (κ := 11) (d := (d1, d2, d3, d4)) ((eb11 T.rf T.rb d1 d2 d3 d4).trans h)

/- (bailment/norm.Net).goesRound loop 2 -/
noncomputable def b12 (rf : T.RF) (rb : T.RB) (d1 : XT) (d2 : List Int) (d3 : List Int) : Option ((XT × List Int × Bool) ⊕ (XT × List Int)) :=
  bif decide ((((d3.length : Nat) : Int)) > 0) then
    bif inb (IntKind.i64.wrap ((((d3.length : Nat) : Int)) - 1)) d3.length then
      (nth d3 (IntKind.i64.wrap ((((d3.length : Nat) : Int)) - 1)).toNat).bind fun (x1 : Int) =>
      bif inb x1 d2.length then
        (nth d2 x1.toNat).bind fun (x2 : Int) =>
        bif x2 != 0 then
          bif inb x1 d2.length then
            bif Nat.blt x1.toNat d2.length then
              bif inb' (IntKind.i64.wrap ((((d3.length : Nat) : Int)) - 1)) d3.length then
                k12 rb d1 (setNth d2 x1.toNat 2) (sub d3 (some (0, ((IntKind.i64.wrap ((((d3.length : Nat) : Int)) - 1)).toNat - 0))))
              else
                none
            else
              none
          else
            none
        else
        bif inb x1 d2.length then
          bif Nat.blt x1.toNat d2.length then
            bif inb x1 d1.1.length then
              (nth d1.1 x1.toNat).bind fun (x3 : XO) =>
              bif x3.1 == 21 then
                k12 rb d1 (setNth d2 x1.toNat 1) d3
              else
              bif inb x1 d1.1.length then
                (nth d1.1 x1.toNat).bind fun (x4 : XO) =>
                (c10 rf x4).bind fun (y5 : List Int × List Int) =>
                (k13 rb (setNth d2 x1.toNat 1) d3 y5.1 (((y5.1.length : Nat) : Int)) 0).bind fun (z6 : (List Int × Bool) ⊕ (List Int × List Int)) =>
                match z6 with
                | .inl u7 =>
                  some (.inl (d1, u7))
                | .inr w8 =>
                  k12 rb d1 w8.1 w8.2
              else
                none
            else
              none
          else
            none
        else
          none
      else
        none
    else
      none
  else
    some (.inr (d1, d2))
theorem eb12 (rf : T.RF) (rb : T.RB) (d1 : XT) (d2 : List Int) (d3 : List Int) : T.stepB rf rb 12 (d1, d2, d3) = b12 rf rb d1 d2 d3 := by kernel_rfl
theorem ob12 {d1 : XT} {d2 : List Int} {d3 : List Int} {y : ((XT × List Int × Bool) ⊕ (XT × List Int))} (h : b12 T.rf T.rb d1 d2 d3 = some y) : k12 T.rb d1 d2 d3 = some y := T.rb_of (κ := 12) (d := (d1, d2, d3)) ((eb12 T.rf T.rb d1 d2 d3).trans h)

/- (bailment/norm.Net).goesRound loop 4 -/
noncomputable def b13 (rf : T.RF) (rb : T.RB) (d1 : List Int) (d2 : List Int) (d3 : List Int) (d4 : Int) (d5 : Int) : Option ((List Int × Bool) ⊕ (List Int × List Int)) :=
  bif decide (d5 < d4) then
    bif inb d5 d3.length then
      (nth d3 d5.toNat).bind fun (x1 : Int) =>
      bif inb x1 d1.length then
        (nth d1 x1.toNat).bind fun (x2 : Int) =>
        bif x2 == 1 then
          some (.inl (d1, true))
        else
        bif x2 == 0 then
          bif (Nat.ble (d2.length + 1) most) && true then
            k13 rb d1 (d2 ++ [x1]) d3 d4 (IntKind.i64.wrap (d5 + 1))
          else
            none
        else
          k13 rb d1 d2 d3 d4 (IntKind.i64.wrap (d5 + 1))
      else
        none
    else
      none
  else
    some (.inr (d1, d2))
theorem eb13 (rf : T.RF) (rb : T.RB) (d1 : List Int) (d2 : List Int) (d3 : List Int) (d4 : Int) (d5 : Int) : T.stepB rf rb 13 (d1, d2, d3, d4, d5) = b13 rf rb d1 d2 d3 d4 d5 := by kernel_rfl
theorem ob13 {d1 : List Int} {d2 : List Int} {d3 : List Int} {d4 : Int} {d5 : Int} {y : ((List Int × Bool) ⊕ (List Int × List Int))} (h : b13 T.rf T.rb d1 d2 d3 d4 d5 = some y) : k13 T.rb d1 d2 d3 d4 d5 = some y := T.rb_of (κ := 13) (d := (d1, d2, d3, d4, d5)) ((eb13 T.rf T.rb d1 d2 d3 d4 d5).trans h)

/- (bailment/norm.Net).goesRound -/
noncomputable def r21 (rf : T.RF) (rb : T.RB) (d1 : XT) : Option Bool :=
  bif inb' (((d1.1.length : Nat) : Int)) most then
    bif inb' (((d1.1.length : Nat) : Int)) d1.1.length then
      (k11 rb d1 (List.replicate d1.1.length (0 : Int)) (((d1.1.length : Nat) : Int)) 0).bind fun (z1 : (XT × List Int × Bool) ⊕ (XT × List Int)) =>
      match z1 with
      | .inl u2 =>
        some u2.2.2
      | .inr w3 =>
        some false
    else
      none
  else
    none
theorem er21 (rf : T.RF) (rb : T.RB) (d1 : XT) : T.stepF rf rb 21 d1 = r21 rf rb d1 := by kernel_rfl
theorem or21 {d1 : XT} {y : Bool} (h : r21 T.rf T.rb d1 = some y) : c21 T.rf d1 = some y := T.rf_of (f := 21) (d := d1) ((er21 T.rf T.rb d1).trans h)

/- norm.Check -/
noncomputable def r5 (rf : T.RF) (rb : T.RB) (d1 : XT) : Option Int :=
  bif decide ((((d1.1.length : Nat) : Int)) > 100000) then
    some 1
  else
    (c6 rf d1 d1.1).bind fun (y1 : XT × Bool) =>
    bif y1.2 then
      some 1
    else
      (c18 rf y1.1 y1.1.2.1).bind fun (y2 : XT × Bool) =>
      bif y2.2 then
        some 1
      else
        (c21 rf y2.1).bind fun (y3 : Bool) =>
        bif y3 then
          some 12
        else
          some 0
theorem er5 (rf : T.RF) (rb : T.RB) (d1 : XT) : T.stepF rf rb 5 d1 = r5 rf rb d1 := by kernel_rfl
theorem or5 {d1 : XT} {y : Int} (h : r5 T.rf T.rb d1 = some y) : c5 T.rf d1 = some y := T.rf_of (f := 5) (d := d1) ((er5 T.rf T.rb d1).trans h)

/- sched.needs$1 -/
noncomputable def r25 (rf : T.RF) (rb : T.RB) (d1 : Int) : Option Bool :=
  some (decide (d1 < 0))
theorem er25 (rf : T.RF) (rb : T.RB) (d1 : Int) : T.stepF rf rb 25 d1 = r25 rf rb d1 := by kernel_rfl
theorem or25 {d1 : Int} {y : Bool} (h : r25 T.rf T.rb d1 = some y) : c25 T.rf d1 = some y := T.rf_of (f := 25) (d := d1) ((er25 T.rf T.rb d1).trans h)

/- slices.IndexFunc[[]int,int] loop 0 -/
noncomputable def b15 (rf : T.RF) (rb : T.RB) (d1 : List Int) (d2 : Int) (d3 : Int) : Option ((List Int × Int) ⊕ (List Int)) :=
  bif decide (d3 < d2) then
    bif inb d3 d1.length then
      (nth d1 d3.toNat).bind fun (x1 : Int) =>
      (c25 rf x1).bind fun (y2 : Bool) =>
      bif y2 then
        some (.inl (d1, d3))
      else
        k15 rb d1 d2 (IntKind.i64.wrap (d3 + 1))
    else
      none
  else
    some (.inr d1)
theorem eb15 (rf : T.RF) (rb : T.RB) (d1 : List Int) (d2 : Int) (d3 : Int) : T.stepB rf rb 15 (d1, d2, d3) = b15 rf rb d1 d2 d3 := by kernel_rfl
theorem ob15 {d1 : List Int} {d2 : Int} {d3 : Int} {y : ((List Int × Int) ⊕ (List Int))} (h : b15 T.rf T.rb d1 d2 d3 = some y) : k15 T.rb d1 d2 d3 = some y := T.rb_of (κ := 15) (d := (d1, d2, d3)) ((eb15 T.rf T.rb d1 d2 d3).trans h)

/- slices.IndexFunc[[]int,int] -/
noncomputable def r24 (rf : T.RF) (rb : T.RB) (d1 : List Int) : Option (List Int × Int) :=
  (k15 rb d1 (((d1.length : Nat) : Int)) 0).bind fun (z1 : (List Int × Int) ⊕ (List Int)) =>
  match z1 with
  | .inl u2 =>
    some u2
  | .inr w3 =>
    some (w3, (-1))
theorem er24 (rf : T.RF) (rb : T.RB) (d1 : List Int) : T.stepF rf rb 24 d1 = r24 rf rb d1 := by kernel_rfl
theorem or24 {d1 : List Int} {y : (List Int × Int)} (h : r24 T.rf T.rb d1 = some y) : c24 T.rf d1 = some y := T.rf_of (f := 24) (d := d1) ((er24 T.rf T.rb d1).trans h)

/- slices.DeleteFunc[[]int,int] loop 0 -/
noncomputable def b16 (rf : T.RF) (rb : T.RB) (d1 : List Int) (d2 : Int) (d3 : Int) : Option (List Int × Int) :=
  bif decide (d3 < (((d1.length : Nat) : Int))) then
    bif inb d3 d1.length then
      (nth d1 d3.toNat).bind fun (x1 : Int) =>
      (c25 rf x1).bind fun (y2 : Bool) =>
      bif !y2 then
        bif inb d2 d1.length then
          bif Nat.blt d2.toNat d1.length then
            k16 rb (setNth d1 d2.toNat x1) (IntKind.i64.wrap (d2 + 1)) (IntKind.i64.wrap (d3 + 1))
          else
            none
        else
          none
      else
        k16 rb d1 d2 (IntKind.i64.wrap (d3 + 1))
    else
      none
  else
    some (d1, d2)
theorem eb16 (rf : T.RF) (rb : T.RB) (d1 : List Int) (d2 : Int) (d3 : Int) : T.stepB rf rb 16 (d1, d2, d3) = b16 rf rb d1 d2 d3 := by kernel_rfl
theorem ob16 {d1 : List Int} {d2 : Int} {d3 : Int} {y : (List Int × Int)} (h : b16 T.rf T.rb d1 d2 d3 = some y) : k16 T.rb d1 d2 d3 = some y := T.rb_of (κ := 16) (d := (d1, d2, d3)) ((eb16 T.rf T.rb d1 d2 d3).trans h)

/- slices.DeleteFunc[[]int,int] -/
noncomputable def r23 (rf : T.RF) (rb : T.RB) (d1 : List Int) : Option ((List Int) ⊕ (List Int)) :=
  (c24 rf d1).bind fun (y1 : List Int × Int) =>
  bif y1.2 == (-1) then
    some (.inl y1.1)
  else
    (k16 rb y1.1 y1.2 (IntKind.i64.wrap (y1.2 + 1))).bind fun (z2 : List Int × Int) =>
    bif inb' z2.2 z2.1.length then
      bif Nat.ble (z2.2.toNat + (List.replicate (z2.1.length - z2.2.toNat) (0 : Int)).length) z2.1.length then
        bif inb' z2.2 (((List.take z2.2.toNat z2.1) ++ (List.replicate (z2.1.length - z2.2.toNat) (0 : Int))) ++ (List.drop (z2.2.toNat + (List.replicate (z2.1.length - z2.2.toNat) (0 : Int)).length) z2.1)).length then
          some (.inr (sub (((List.take z2.2.toNat z2.1) ++ (List.replicate (z2.1.length - z2.2.toNat) (0 : Int))) ++ (List.drop (z2.2.toNat + (List.replicate (z2.1.length - z2.2.toNat) (0 : Int)).length) z2.1)) (some (0, (z2.2.toNat - 0)))))
        else
          none
      else
        none
    else
      none
theorem er23 (rf : T.RF) (rb : T.RB) (d1 : List Int) : T.stepF rf rb 23 d1 = r23 rf rb d1 := by kernel_rfl
theorem or23 {d1 : List Int} {y : ((List Int) ⊕ (List Int))} (h : r23 T.rf T.rb d1 = some y) : c23 T.rf d1 = some y := T.rf_of (f := 23) (d := d1) ((er23 T.rf T.rb d1).trans h)

/- sched.needs -/
noncomputable def r22 (rf : T.RF) (rb : T.RB) (d1 : XO) : Option (List Int) :=
  bif d1.1 == 21 then
    some []
  else
    (c23 rf [d1.2.1, d1.2.2.1, d1.2.2.2.1]).bind fun (y1 : (List Int) ⊕ (List Int)) =>
    match y1 with
    | .inl u2 =>
      some u2
    | .inr w3 =>
      some w3
theorem er22 (rf : T.RF) (rb : T.RB) (d1 : XO) : T.stepF rf rb 22 d1 = r22 rf rb d1 := by kernel_rfl
theorem or22 {d1 : XO} {y : (List Int)} (h : r22 T.rf T.rb d1 = some y) : c22 T.rf d1 = some y := T.rf_of (f := 22) (d := d1) ((er22 T.rf T.rb d1).trans h)

/- (*bailment/sched.ready).Push -/
noncomputable def r27q (rf : T.RF) (rb : T.RB) (d1 : List Int) (d2 : Int) : Option (List Int) :=
  agN 2 (
    bif (Nat.ble (d1.length + 1) most) && true then
      some (d1 ++ [d2])
    else
      none
  )
noncomputable def r27 (rf : T.RF) (rb : T.RB) (d1 : List Int) (d2 : Int) : Option (List Int) :=
  bif (Nat.ble (d1.length + 1) most) && true then
    some (d1 ++ [d2])
  else
    none
theorem er27 (rf : T.RF) (rb : T.RB) (d1 : List Int) (d2 : Int) : T.stepF rf rb 27 (d1, d2) = r27q rf rb d1 d2 := by kernel_rfl
theorem sr27 (rf : T.RF) (rb : T.RB) (d1 : List Int) (d2 : Int) : r27q rf rb d1 d2 = r27 rf rb d1 d2 := by
  unfold r27q r27; simp only [agN_eq, agree_self, agree_swap]
theorem or27 {d1 : List Int} {d2 : Int} {y : (List Int)} (h : r27 T.rf T.rb d1 d2 = some y) : c27 T.rf d1 d2 = some y := T.rf_of (f := 27) (d := (d1, d2)) (((er27 T.rf T.rb d1 d2).trans (sr27 T.rf T.rb d1 d2)).trans h)

/- (bailment/sched.ready).Len -/
noncomputable def r28 (rf : T.RF) (rb : T.RB) (d1 : List Int) : Option (List Int × Int) :=
  some (d1, ((d1.length : Nat) : Int))
theorem er28 (rf : T.RF) (rb : T.RB) (d1 : List Int) : T.stepF rf rb 28 d1 = r28 rf rb d1 := by kernel_rfl
theorem or28 {d1 : List Int} {y : (List Int × Int)} (h : r28 T.rf T.rb d1 = some y) : c28 T.rf d1 = some y := T.rf_of (f := 28) (d := d1) ((er28 T.rf T.rb d1).trans h)

/- (bailment/sched.ready).Less -/
noncomputable def r30 (rf : T.RF) (rb : T.RB) (d1 : List Int) (d2 : Int) (d3 : Int) : Option (List Int × Bool) :=
  bif inb d2 d1.length then
    (nth d1 d2.toNat).bind fun (x1 : Int) =>
    bif inb d3 d1.length then
      (nth d1 d3.toNat).bind fun (x2 : Int) =>
      some (d1, decide (x1 < x2))
    else
      none
  else
    none
theorem er30 (rf : T.RF) (rb : T.RB) (d1 : List Int) (d2 : Int) (d3 : Int) : T.stepF rf rb 30 (d1, d2, d3) = r30 rf rb d1 d2 d3 := by kernel_rfl
theorem or30 {d1 : List Int} {d2 : Int} {d3 : Int} {y : (List Int × Bool)} (h : r30 T.rf T.rb d1 d2 d3 = some y) : c30 T.rf d1 d2 d3 = some y := T.rf_of (f := 30) (d := (d1, d2, d3)) ((er30 T.rf T.rb d1 d2 d3).trans h)

/- (bailment/sched.ready).Swap -/
noncomputable def r31q (rf : T.RF) (rb : T.RB) (d1 : List Int) (d2 : Int) (d3 : Int) : Option (List Int) :=
  bif inb d3 d1.length then
    bif inb d2 d1.length then
      agree (
        (nth d1 d3.toNat).bind fun (x1 : Int) =>
        (nth d1 d2.toNat).bind fun (x2 : Int) =>
        bif inb d2 d1.length then
          bif Nat.blt d2.toNat d1.length then
            bif inb d3 (setNth d1 d2.toNat x1).length then
              bif Nat.blt d3.toNat (setNth d1 d2.toNat x1).length then
                some (setNth (setNth d1 d2.toNat x1) d3.toNat x2)
              else
                none
            else
              none
          else
            none
        else
          none
      ) (
        (nth d1 d2.toNat).bind fun (x1 : Int) =>
        (nth d1 d3.toNat).bind fun (x2 : Int) =>
        bif inb d2 d1.length then
          bif Nat.blt d2.toNat d1.length then
            bif inb d3 (setNth d1 d2.toNat x2).length then
              bif Nat.blt d3.toNat (setNth d1 d2.toNat x2).length then
                some (setNth (setNth d1 d2.toNat x2) d3.toNat x1)
              else
                none
            else
              none
          else
            none
        else
          none
      )
    else
      none
  else
    none
noncomputable def r31 (rf : T.RF) (rb : T.RB) (d1 : List Int) (d2 : Int) (d3 : Int) : Option (List Int) :=
  bif inb d3 d1.length then
    bif inb d2 d1.length then
      (nth d1 d3.toNat).bind fun (x1 : Int) =>
      (nth d1 d2.toNat).bind fun (x2 : Int) =>
      bif inb d2 d1.length then
        bif Nat.blt d2.toNat d1.length then
          bif inb d3 (setNth d1 d2.toNat x1).length then
            bif Nat.blt d3.toNat (setNth d1 d2.toNat x1).length then
              some (setNth (setNth d1 d2.toNat x1) d3.toNat x2)
            else
              none
          else
            none
        else
          none
      else
        none
    else
      none
  else
    none
theorem er31 (rf : T.RF) (rb : T.RB) (d1 : List Int) (d2 : Int) (d3 : Int) : T.stepF rf rb 31 (d1, d2, d3) = r31q rf rb d1 d2 d3 := by kernel_rfl
theorem sr31 (rf : T.RF) (rb : T.RB) (d1 : List Int) (d2 : Int) (d3 : Int) : r31q rf rb d1 d2 d3 = r31 rf rb d1 d2 d3 := by
  unfold r31q r31; simp only [agN_eq, agree_self, agree_swap]
theorem or31 {d1 : List Int} {d2 : Int} {d3 : Int} {y : (List Int)} (h : r31 T.rf T.rb d1 d2 d3 = some y) : c31 T.rf d1 d2 d3 = some y := T.rf_of (f := 31) (d := (d1, d2, d3)) (((er31 T.rf T.rb d1 d2 d3).trans (sr31 T.rf T.rb d1 d2 d3)).trans h)

/- container/heap.up loop 0 -/
noncomputable def b18 (rf : T.RF) (rb : T.RB) (d1 : List Int) (d2 : Int) : Option (List Int) :=
  bif (IntKind.i64.wrap (Int.tdiv (IntKind.i64.wrap (d2 - 1)) 2)) == d2 then
    some d1
  else
    (c30 rf d1 d2 (IntKind.i64.wrap (Int.tdiv (IntKind.i64.wrap (d2 - 1)) 2))).bind fun (y1 : List Int × Bool) =>
    bif !y1.2 then
      some y1.1
    else
      (c31 rf y1.1 (IntKind.i64.wrap (Int.tdiv (IntKind.i64.wrap (d2 - 1)) 2)) d2).bind fun (y2 : List Int) =>
      k18 rb y2 (IntKind.i64.wrap (Int.tdiv (IntKind.i64.wrap (d2 - 1)) 2))
theorem eb18 (rf : T.RF) (rb : T.RB) (d1 : List Int) (d2 : Int) : T.stepB rf rb 18 (d1, d2) = b18 rf rb d1 d2 := by kernel_rfl
theorem ob18 {d1 : List Int} {d2 : Int} {y : (List Int)} (h : b18 T.rf T.rb d1 d2 = some y) : k18 T.rb d1 d2 = some y := T.rb_of (κ := 18) (d := (d1, d2)) ((eb18 T.rf T.rb d1 d2).trans h)

/- container/heap.up -/
noncomputable def r29 (rf : T.RF) (rb : T.RB) (d1 : List Int) (d2 : Int) : Option (List Int) :=
  (k18 rb d1 d2).bind fun (z1 : List Int) =>
  some z1
theorem er29 (rf : T.RF) (rb : T.RB) (d1 : List Int) (d2 : Int) : T.stepF rf rb 29 (d1, d2) = r29 rf rb d1 d2 := by kernel_rfl
theorem or29 {d1 : List Int} {d2 : Int} {y : (List Int)} (h : r29 T.rf T.rb d1 d2 = some y) : c29 T.rf d1 d2 = some y := T.rf_of (f := 29) (d := (d1, d2)) ((er29 T.rf T.rb d1 d2).trans h)

/- container/heap.Push -/
noncomputable def r26 (rf : T.RF) (rb : T.RB) (d1 : List Int) (d2 : Int) : Option (List Int) :=
  (c27 rf d1 d2).bind fun (y1 : List Int) =>
  (c28 rf y1).bind fun (y2 : List Int × Int) =>
  (c29 rf y2.1 (IntKind.i64.wrap (y2.2 - 1))).bind fun (y3 : List Int) =>
  some y3
theorem er26 (rf : T.RF) (rb : T.RB) (d1 : List Int) (d2 : Int) : T.stepF rf rb 26 (d1, d2) = r26 rf rb d1 d2 := by kernel_rfl
theorem or26 {d1 : List Int} {d2 : Int} {y : (List Int)} (h : r26 T.rf T.rb d1 d2 = some y) : c26 T.rf d1 d2 = some y := T.rf_of (f := 26) (d := (d1, d2)) ((er26 T.rf T.rb d1 d2).trans h)

/- container/heap.down loop 0 -/
noncomputable def b22 (rf : T.RF) (rb : T.RB) (d1 : List Int) (d2 : Int) (d3 : Int) : Option (List Int × Int) :=
  bif decide ((IntKind.i64.wrap ((IntKind.i64.wrap (2 * d3)) + 1)) ≥ d2) then
    some (d1, d3)
  else
  bif decide ((IntKind.i64.wrap ((IntKind.i64.wrap (2 * d3)) + 1)) < 0) then
    some (d1, d3)
  else
  bif decide ((IntKind.i64.wrap ((IntKind.i64.wrap ((IntKind.i64.wrap (2 * d3)) + 1)) + 1)) < d2) then
    (c30 rf d1 (IntKind.i64.wrap ((IntKind.i64.wrap ((IntKind.i64.wrap (2 * d3)) + 1)) + 1)) (IntKind.i64.wrap ((IntKind.i64.wrap (2 * d3)) + 1))).bind fun (y1 : List Int × Bool) =>
    bif y1.2 then
      (c30 rf y1.1 (IntKind.i64.wrap ((IntKind.i64.wrap ((IntKind.i64.wrap (2 * d3)) + 1)) + 1)) d3).bind fun (y2 : List Int × Bool) =>
      bif !y2.2 then
        some (y2.1, d3)
      else
        (c31 rf y2.1 d3 (IntKind.i64.wrap ((IntKind.i64.wrap ((IntKind.i64.wrap (2 * d3)) + 1)) + 1))).bind fun (y3 : List Int) =>
        k22 rb y3 d2 (IntKind.i64.wrap ((IntKind.i64.wrap ((IntKind.i64.wrap (2 * d3)) + 1)) + 1))
    else
      (c30 rf y1.1 (IntKind.i64.wrap ((IntKind.i64.wrap (2 * d3)) + 1)) d3).bind fun (y4 : List Int × Bool) =>
      bif !y4.2 then
        some (y4.1, d3)
      else
        (c31 rf y4.1 d3 (IntKind.i64.wrap ((IntKind.i64.wrap (2 * d3)) + 1))).bind fun (y5 : List Int) =>
        k22 rb y5 d2 (IntKind.i64.wrap ((IntKind.i64.wrap (2 * d3)) + 1))
  else
    (c30 rf d1 (IntKind.i64.wrap ((IntKind.i64.wrap (2 * d3)) + 1)) d3).bind fun (y6 : List Int × Bool) =>
    bif !y6.2 then
      some (y6.1, d3)
    else
      (c31 rf y6.1 d3 (IntKind.i64.wrap ((IntKind.i64.wrap (2 * d3)) + 1))).bind fun (y7 : List Int) =>
      k22 rb y7 d2 (IntKind.i64.wrap ((IntKind.i64.wrap (2 * d3)) + 1))
theorem eb22 (rf : T.RF) (rb : T.RB) (d1 : List Int) (d2 : Int) (d3 : Int) : T.stepB rf rb 22 (d1, d2, d3) = b22 rf rb d1 d2 d3 := by kernel_rfl
theorem ob22 {d1 : List Int} {d2 : Int} {d3 : Int} {y : (List Int × Int)} (h : b22 T.rf T.rb d1 d2 d3 = some y) : k22 T.rb d1 d2 d3 = some y := T.rb_of (κ := 22) (d := (d1, d2, d3)) ((eb22 T.rf T.rb d1 d2 d3).trans h)

/- container/heap.down -/
noncomputable def r33 (rf : T.RF) (rb : T.RB) (d1 : List Int) (d2 : Int) (d3 : Int) : Option (List Int × Bool) :=
  (k22 rb d1 d3 d2).bind fun (z1 : List Int × Int) =>
  some (z1.1, decide (z1.2 > d2))
theorem er33 (rf : T.RF) (rb : T.RB) (d1 : List Int) (d2 : Int) (d3 : Int) : T.stepF rf rb 33 (d1, d2, d3) = r33 rf rb d1 d2 d3 := by kernel_rfl
theorem or33 {d1 : List Int} {d2 : Int} {d3 : Int} {y : (List Int × Bool)} (h : r33 T.rf T.rb d1 d2 d3 = some y) : c33 T.rf d1 d2 d3 = some y := T.rf_of (f := 33) (d := (d1, d2, d3)) ((er33 T.rf T.rb d1 d2 d3).trans h)

/- (*bailment/sched.ready).Pop -/
noncomputable def r34 (rf : T.RF) (rb : T.RB) (d1 : List Int) : Option (List Int × Int) :=
  bif inb (IntKind.i64.wrap ((((d1.length : Nat) : Int)) - 1)) d1.length then
    (nth d1 (IntKind.i64.wrap ((((d1.length : Nat) : Int)) - 1)).toNat).bind fun (x1 : Int) =>
    bif inb' (IntKind.i64.wrap ((((d1.length : Nat) : Int)) - 1)) d1.length then
      some (sub d1 (some (0, ((IntKind.i64.wrap ((((d1.length : Nat) : Int)) - 1)).toNat - 0))), x1)
    else
      none
  else
    none
theorem er34 (rf : T.RF) (rb : T.RB) (d1 : List Int) : T.stepF rf rb 34 d1 = r34 rf rb d1 := by kernel_rfl
theorem or34 {d1 : List Int} {y : (List Int × Int)} (h : r34 T.rf T.rb d1 = some y) : c34 T.rf d1 = some y := T.rf_of (f := 34) (d := d1) ((er34 T.rf T.rb d1).trans h)

/- container/heap.Pop -/
noncomputable def r32 (rf : T.RF) (rb : T.RB) (d1 : List Int) : Option (List Int × Int) :=
  (c28 rf d1).bind fun (y1 : List Int × Int) =>
  (c31 rf y1.1 0 (IntKind.i64.wrap (y1.2 - 1))).bind fun (y2 : List Int) =>
  (c33 rf y2 0 (IntKind.i64.wrap (y1.2 - 1))).bind fun (y3 : List Int × Bool) =>
  (c34 rf y3.1).bind fun (y4 : List Int × Int) =>
  some y4
theorem er32 (rf : T.RF) (rb : T.RB) (d1 : List Int) : T.stepF rf rb 32 d1 = r32 rf rb d1 := by kernel_rfl
theorem or32 {d1 : List Int} {y : (List Int × Int)} (h : r32 T.rf T.rb d1 = some y) : c32 T.rf d1 = some y := T.rf_of (f := 32) (d := d1) ((er32 T.rf T.rb d1).trans h)

/- sched.Order loop 0 -/
noncomputable def b36 (rf : T.RF) (rb : T.RB) (d1 : List Int) (d2 : List (List Int)) (d3 : List Int) (d4 : List XO) (d5 : Int) (d6 : Int) : Option (List Int × List (List Int) × List Int) :=
  bif decide (d6 < d5) then
    bif inb d6 d4.length then
      (nth d4 d6.toNat).bind fun (x1 : XO) =>
      (c22 rf x1).bind fun (y2 : List Int) =>
      (k37 rb d1 d2 y2 d6 (((y2.length : Nat) : Int)) 0).bind fun (z3 : List Int × List (List Int) × List Int) =>
      bif inb d6 z3.1.length then
        (nth z3.1 d6.toNat).bind fun (x4 : Int) =>
        bif x4 == 0 then
          (c26 rf d3 d6).bind fun (y5 : List Int) =>
          k36 rb z3.1 z3.2.1 y5 d4 d5 (IntKind.i64.wrap (d6 + 1))
        else
          k36 rb z3.1 z3.2.1 d3 d4 d5 (IntKind.i64.wrap (d6 + 1))
      else
        none
    else
      none
  else
    some (d1, d2, d3)
theorem eb36 (rf : T.RF) (rb : T.RB) (d1 : List Int) (d2 : List (List Int)) (d3 : List Int) (d4 : List XO) (d5 : Int) (d6 : Int) : T.stepB rf rb 36 (d1, d2, d3, d4, d5, d6) = b36 rf rb d1 d2 d3 d4 d5 d6 := by kernel_rfl
theorem ob36 {d1 : List Int} {d2 : List (List Int)} {d3 : List Int} {d4 : List XO} {d5 : Int} {d6 : Int} {y : (List Int × List (List Int) × List Int)} (h : b36 T.rf T.rb d1 d2 d3 d4 d5 d6 = some y) : k36 T.rb d1 d2 d3 d4 d5 d6 = some y := T.rb_of (κ := 36) (d := (d1, d2, d3, d4, d5, d6)) ((eb36 T.rf T.rb d1 d2 d3 d4 d5 d6).trans h)

/- sched.Order loop 2 -/
noncomputable def b37 (rf : T.RF) (rb : T.RB) (d1 : List Int) (d2 : List (List Int)) (d3 : List Int) (d4 : Int) (d5 : Int) (d6 : Int) : Option (List Int × List (List Int) × List Int) :=
  bif decide (d6 < d5) then
    bif inb d6 d3.length then
      (nth d3 d6.toNat).bind fun (x1 : Int) =>
      bif inb x1 d2.length then
        (nth d2 x1.toNat).bind fun (x2 : List Int) =>
        bif (Nat.ble (x2.length + 1) most) && true then
          bif inb x1 d2.length then
            bif Nat.beq x1.toNat x1.toNat && ((Nat.blt x1.toNat d2.length) && true) then
              bif inb d4 d1.length then
                (nth d1 d4.toNat).bind fun (x3 : Int) =>
                bif inb d4 d1.length then
                  bif Nat.blt d4.toNat d1.length then
                    k37 rb (setNth d1 d4.toNat (IntKind.i64.wrap (x3 + 1))) (setNth d2 x1.toNat (x2 ++ [d4])) d3 d4 d5 (IntKind.i64.wrap (d6 + 1))
                  else
                    none
                else
                  none
              else
                none
            else
              none
          else
            none
        else
          none
      else
        none
    else
      none
  else
    some (d1, d2, d3)
theorem eb37 (rf : T.RF) (rb : T.RB) (d1 : List Int) (d2 : List (List Int)) (d3 : List Int) (d4 : Int) (d5 : Int) (d6 : Int) : T.stepB rf rb 37 (d1, d2, d3, d4, d5, d6) = b37 rf rb d1 d2 d3 d4 d5 d6 := by kernel_rfl
theorem ob37 {d1 : List Int} {d2 : List (List Int)} {d3 : List Int} {d4 : Int} {d5 : Int} {d6 : Int} {y : (List Int × List (List Int) × List Int)} (h : b37 T.rf T.rb d1 d2 d3 d4 d5 d6 = some y) : k37 T.rb d1 d2 d3 d4 d5 d6 = some y := T.rb_of (κ := 37) (d := (d1, d2, d3, d4, d5, d6)) ((eb37 T.rf T.rb d1 d2 d3 d4 d5 d6).trans h)

/- sched.Order loop 4 -/
noncomputable def b38 (rf : T.RF) (rb : T.RB) (d1 : List Int) (d2 : List Int) (d3 : List Int) (d4 : List (List Int)) : Option (List Int × List Int × List Int) :=
  bif decide ((((d3.length : Nat) : Int)) > 0) then
    (c32 rf d3).bind fun (y1 : List Int × Int) =>
    bif (Nat.ble (d2.length + 1) most) && true then
      bif inb y1.2 d4.length then
        (nth d4 y1.2.toNat).bind fun (x2 : List Int) =>
        (k39 rb d1 y1.1 x2 (((x2.length : Nat) : Int)) 0).bind fun (z3 : List Int × List Int) =>
        k38 rb z3.1 (d2 ++ [y1.2]) z3.2 d4
      else
        none
    else
      none
  else
    some (d1, d2, d3)
theorem eb38 (rf : T.RF) (rb : T.RB) (d1 : List Int) (d2 : List Int) (d3 : List Int) (d4 : List (List Int)) : T.stepB rf rb 38 (d1, d2, d3, d4) = b38 rf rb d1 d2 d3 d4 := by kernel_rfl
theorem ob38 {d1 : List Int} {d2 : List Int} {d3 : List Int} {d4 : List (List Int)} {y : (List Int × List Int × List Int)} (h : b38 T.rf T.rb d1 d2 d3 d4 = some y) : k38 T.rb d1 d2 d3 d4 = some y := T.rb_of (κ := 38) (d := (d1, d2, d3, d4)) ((eb38 T.rf T.rb d1 d2 d3 d4).trans h)

/- sched.Order loop 6 -/
noncomputable def b39 (rf : T.RF) (rb : T.RB) (d1 : List Int) (d2 : List Int) (d3 : List Int) (d4 : Int) (d5 : Int) : Option (List Int × List Int) :=
  bif decide (d5 < d4) then
    bif inb d5 d3.length then
      (nth d3 d5.toNat).bind fun (x1 : Int) =>
      bif inb x1 d1.length then
        (nth d1 x1.toNat).bind fun (x2 : Int) =>
        bif inb x1 d1.length then
          bif Nat.blt x1.toNat d1.length then
            bif inb x1 (setNth d1 x1.toNat (IntKind.i64.wrap (x2 - 1))).length then
              (nth (setNth d1 x1.toNat (IntKind.i64.wrap (x2 - 1))) x1.toNat).bind fun (x3 : Int) =>
              bif x3 == 0 then
                (c26 rf d2 x1).bind fun (y4 : List Int) =>
                k39 rb (setNth d1 x1.toNat (IntKind.i64.wrap (x2 - 1))) y4 d3 d4 (IntKind.i64.wrap (d5 + 1))
              else
                k39 rb (setNth d1 x1.toNat (IntKind.i64.wrap (x2 - 1))) d2 d3 d4 (IntKind.i64.wrap (d5 + 1))
            else
              none
          else
            none
        else
          none
      else
        none
    else
      none
  else
    some (d1, d2)
theorem eb39 (rf : T.RF) (rb : T.RB) (d1 : List Int) (d2 : List Int) (d3 : List Int) (d4 : Int) (d5 : Int) : T.stepB rf rb 39 (d1, d2, d3, d4, d5) = b39 rf rb d1 d2 d3 d4 d5 := by kernel_rfl
theorem ob39 {d1 : List Int} {d2 : List Int} {d3 : List Int} {d4 : Int} {d5 : Int} {y : (List Int × List Int)} (h : b39 T.rf T.rb d1 d2 d3 d4 d5 = some y) : k39 T.rb d1 d2 d3 d4 d5 = some y := T.rb_of (κ := 39) (d := (d1, d2, d3, d4, d5)) ((eb39 T.rf T.rb d1 d2 d3 d4 d5).trans h)

/- sched.Order -/
noncomputable def r4 (rf : T.RF) (rb : T.RB) (d1 : XT) : Option (List Int × Int) :=
  (c5 rf d1).bind fun (y1 : Int) =>
  bif y1 != 0 then
    some ([], y1)
  else
  bif inb' (((d1.1.length : Nat) : Int)) most then
    bif inb' (((d1.1.length : Nat) : Int)) d1.1.length then
      bif inb' (((d1.1.length : Nat) : Int)) most then
        bif inb' (((d1.1.length : Nat) : Int)) d1.1.length then
          (k36 rb (List.replicate d1.1.length (0 : Int)) (List.replicate d1.1.length []) [] d1.1 (((d1.1.length : Nat) : Int)) 0).bind fun (z2 : List Int × List (List Int) × List Int) =>
          (k38 rb z2.1 [] z2.2.2 z2.2.1).bind fun (z3 : List Int × List Int × List Int) =>
          some (z3.2.1, 0)
        else
          none
      else
        none
    else
      none
  else
    none
theorem er4 (rf : T.RF) (rb : T.RB) (d1 : XT) : T.stepF rf rb 4 d1 = r4 rf rb d1 := by kernel_rfl
theorem or4 {d1 : XT} {y : (List Int × Int)} (h : r4 T.rf T.rb d1 = some y) : c4 T.rf d1 = some y := T.rf_of (f := 4) (d := d1) ((er4 T.rf T.rb d1).trans h)

/- slices.Clone[[]int,int] -/
noncomputable def r36 (rf : T.RF) (rb : T.RB) (d1 : List Int) : Option (List Int) :=
  bif d1.isEmpty then
    agree (
      some []
    ) (
      bif (Nat.ble (0 + d1.length) most) && true then
        some ([] ++ d1)
      else
        none
    )
  else
  bif (Nat.ble (0 + d1.length) most) && true then
    some ([] ++ d1)
  else
    none
theorem er36 (rf : T.RF) (rb : T.RB) (d1 : List Int) : T.stepF rf rb 36 d1 = r36 rf rb d1 := by kernel_rfl
theorem or36 {d1 : List Int} {y : (List Int)} (h : r36 T.rf T.rb d1 = some y) : c36 T.rf d1 = some y := T.rf_of (f := 36) (d := d1) ((er36 T.rf T.rb d1).trans h)

/- sched.Sort loop 0 -/
noncomputable def b51 (rf : T.RF) (rb : T.RB) (d1 : List Int) (d2 : List Int) (d3 : Int) (d4 : Int) : Option (List Int × List Int) :=
  bif decide (d4 < d3) then
    bif inb d4 d2.length then
      (nth d2 d4.toNat).bind fun (x1 : Int) =>
      bif inb x1 d1.length then
        bif Nat.blt x1.toNat d1.length then
          k51 rb (setNth d1 x1.toNat d4) d2 d3 (IntKind.i64.wrap (d4 + 1))
        else
          none
      else
        none
    else
      none
  else
    some (d1, d2)
theorem eb51 (rf : T.RF) (rb : T.RB) (d1 : List Int) (d2 : List Int) (d3 : Int) (d4 : Int) : T.stepB rf rb 51 (d1, d2, d3, d4) = b51 rf rb d1 d2 d3 d4 := by kernel_rfl
theorem ob51 {d1 : List Int} {d2 : List Int} {d3 : Int} {d4 : Int} {y : (List Int × List Int)} (h : b51 T.rf T.rb d1 d2 d3 d4 = some y) : k51 T.rb d1 d2 d3 d4 = some y := T.rb_of (κ := 51) (d := (d1, d2, d3, d4)) ((eb51 T.rf T.rb d1 d2 d3 d4).trans h)

/- sched.Sort loop 2 -/
noncomputable def b52 (rf : T.RF) (rb : T.RB) (d1 : XT) (d2 : List Int) (d3 : List Int) (d4 : List XO) (d5 : List Int) (d6 : List Int) (d7 : Int) (d8 : Int) : Option (XT × List Int × List Int × List Int × List Int × List XO) :=
  bif decide (d8 < d7) then
    bif inb d8 d3.length then
      (nth d3 d8.toNat).bind fun (x1 : Int) =>
      bif inb x1 d1.1.length then
        (nth d1.1 x1.toNat).bind fun (x2 : XO) =>
        bif decide (x2.2.1 ≥ 0) then
          bif inb x2.2.1 d2.length then
            (nth d2 x2.2.1.toNat).bind fun (x3 : Int) =>
            bif decide (x2.2.2.1 ≥ 0) then
              bif inb x2.2.2.1 d2.length then
                (nth d2 x2.2.2.1.toNat).bind fun (x4 : Int) =>
                bif decide (x2.2.2.2.1 ≥ 0) then
                  bif inb x2.2.2.2.1 d2.length then
                    (nth d2 x2.2.2.2.1.toNat).bind fun (x5 : Int) =>
                    bif (Nat.ble (d4.length + 1) most) && true then
                      k52 rb d1 d2 d3 (d4 ++ [(x2.1, x3, x4, x5, x2.2.2.2.2)]) d5 d6 d7 (IntKind.i64.wrap (d8 + 1))
                    else
                      none
                  else
                    none
                else
                bif (Nat.ble (d4.length + 1) most) && true then
                  k52 rb d1 d2 d3 (d4 ++ [(x2.1, x3, x4, x2.2.2.2)]) d5 d6 d7 (IntKind.i64.wrap (d8 + 1))
                else
                  none
              else
                none
            else
            bif decide (x2.2.2.2.1 ≥ 0) then
              bif inb x2.2.2.2.1 d2.length then
                (nth d2 x2.2.2.2.1.toNat).bind fun (x6 : Int) =>
                bif (Nat.ble (d4.length + 1) most) && true then
                  k52 rb d1 d2 d3 (d4 ++ [(x2.1, x3, x2.2.2.1, x6, x2.2.2.2.2)]) d5 d6 d7 (IntKind.i64.wrap (d8 + 1))
                else
                  none
              else
                none
            else
            bif (Nat.ble (d4.length + 1) most) && true then
              k52 rb d1 d2 d3 (d4 ++ [(x2.1, x3, x2.2.2)]) d5 d6 d7 (IntKind.i64.wrap (d8 + 1))
            else
              none
          else
            none
        else
        bif decide (x2.2.2.1 ≥ 0) then
          bif inb x2.2.2.1 d2.length then
            (nth d2 x2.2.2.1.toNat).bind fun (x7 : Int) =>
            bif decide (x2.2.2.2.1 ≥ 0) then
              bif inb x2.2.2.2.1 d2.length then
                (nth d2 x2.2.2.2.1.toNat).bind fun (x8 : Int) =>
                bif (Nat.ble (d4.length + 1) most) && true then
                  k52 rb d1 d2 d3 (d4 ++ [(x2.1, x2.2.1, x7, x8, x2.2.2.2.2)]) d5 d6 d7 (IntKind.i64.wrap (d8 + 1))
                else
                  none
              else
                none
            else
            bif (Nat.ble (d4.length + 1) most) && true then
              k52 rb d1 d2 d3 (d4 ++ [(x2.1, x2.2.1, x7, x2.2.2.2)]) d5 d6 d7 (IntKind.i64.wrap (d8 + 1))
            else
              none
          else
            none
        else
        bif decide (x2.2.2.2.1 ≥ 0) then
          bif inb x2.2.2.2.1 d2.length then
            (nth d2 x2.2.2.2.1.toNat).bind fun (x9 : Int) =>
            bif (Nat.ble (d4.length + 1) most) && true then
              k52 rb d1 d2 d3 (d4 ++ [(x2.1, x2.2.1, x2.2.2.1, x9, x2.2.2.2.2)]) d5 d6 d7 (IntKind.i64.wrap (d8 + 1))
            else
              none
          else
            none
        else
        bif (Nat.ble (d4.length + 1) most) && true then
          k52 rb d1 d2 d3 (d4 ++ [x2]) d5 d6 d7 (IntKind.i64.wrap (d8 + 1))
        else
          none
      else
        none
    else
      none
  else
    some (d1, d2, d3, d5, d6, d4)
theorem eb52 (rf : T.RF) (rb : T.RB) (d1 : XT) (d2 : List Int) (d3 : List Int) (d4 : List XO) (d5 : List Int) (d6 : List Int) (d7 : Int) (d8 : Int) : T.stepB rf rb 52 (d1, d2, d3, d4, d5, d6, d7, d8) = b52 rf rb d1 d2 d3 d4 d5 d6 d7 d8 := by kernel_rfl
theorem ob52 {d1 : XT} {d2 : List Int} {d3 : List Int} {d4 : List XO} {d5 : List Int} {d6 : List Int} {d7 : Int} {d8 : Int} {y : (XT × List Int × List Int × List Int × List Int × List XO)} (h : b52 T.rf T.rb d1 d2 d3 d4 d5 d6 d7 d8 = some y) : k52 T.rb d1 d2 d3 d4 d5 d6 d7 d8 = some y := T.rb_of (κ := 52) (d := (d1, d2, d3, d4, d5, d6, d7, d8)) ((eb52 T.rf T.rb d1 d2 d3 d4 d5 d6 d7 d8).trans h)

/- sched.Sort loop 6 -/
noncomputable def b53q (rf : T.RF) (rb : T.RB) (d1 : List Int) (d2 : List XO) (d3 : List Int) (d4 : List Int) (d5 : List Int) (d6 : Int) (d7 : Int) : Option (List Int × XT) :=
  bif decide (d7 < d6) then
    bif inb d7 d5.length then
      (nth d5 d7.toNat).bind fun (x1 : Int) =>
      bif inb x1 d1.length then
        (nth d1 x1.toNat).bind fun (x2 : Int) =>
        agN 1 (
          bif (Nat.ble (d3.length + 1) most) && true then
            k53 rb d1 d2 (d3 ++ [x2]) d4 d5 d6 (IntKind.i64.wrap (d7 + 1))
          else
            none
        )
      else
        none
    else
      none
  else
    some (d1, d2, d4, d3)
noncomputable def b53 (rf : T.RF) (rb : T.RB) (d1 : List Int) (d2 : List XO) (d3 : List Int) (d4 : List Int) (d5 : List Int) (d6 : Int) (d7 : Int) : Option (List Int × XT) :=
  bif decide (d7 < d6) then
    bif inb d7 d5.length then
      (nth d5 d7.toNat).bind fun (x1 : Int) =>
      bif inb x1 d1.length then
        (nth d1 x1.toNat).bind fun (x2 : Int) =>
        bif (Nat.ble (d3.length + 1) most) && true then
          k53 rb d1 d2 (d3 ++ [x2]) d4 d5 d6 (IntKind.i64.wrap (d7 + 1))
        else
          none
      else
        none
    else
      none
  else
    some (d1, d2, d4, d3)
theorem eb53 (rf : T.RF) (rb : T.RB) (d1 : List Int) (d2 : List XO) (d3 : List Int) (d4 : List Int) (d5 : List Int) (d6 : Int) (d7 : Int) : T.stepB rf rb 53 (d1, d2, d3, d4, d5, d6, d7) = b53q rf rb d1 d2 d3 d4 d5 d6 d7 := by kernel_rfl
theorem sb53 (rf : T.RF) (rb : T.RB) (d1 : List Int) (d2 : List XO) (d3 : List Int) (d4 : List Int) (d5 : List Int) (d6 : Int) (d7 : Int) : b53q rf rb d1 d2 d3 d4 d5 d6 d7 = b53 rf rb d1 d2 d3 d4 d5 d6 d7 := by
  unfold b53q b53; simp only [agN_eq, agree_self, agree_swap]
theorem ob53 {d1 : List Int} {d2 : List XO} {d3 : List Int} {d4 : List Int} {d5 : List Int} {d6 : Int} {d7 : Int} {y : (List Int × XT)} (h : b53 T.rf T.rb d1 d2 d3 d4 d5 d6 d7 = some y) : k53 T.rb d1 d2 d3 d4 d5 d6 d7 = some y := T.rb_of (κ := 53) (d := (d1, d2, d3, d4, d5, d6, d7)) (((eb53 T.rf T.rb d1 d2 d3 d4 d5 d6 d7).trans (sb53 T.rf T.rb d1 d2 d3 d4 d5 d6 d7)).trans h)

/- sched.Sort -/
noncomputable def r35 (rf : T.RF) (rb : T.RB) (d1 : XT) : Option (XT × Int) :=
  (c4 rf d1).bind fun (y1 : List Int × Int) =>
  bif y1.2 != 0 then
    some (([], [], []), y1.2)
  else
  bif inb' (((y1.1.length : Nat) : Int)) most then
    bif inb' (((y1.1.length : Nat) : Int)) y1.1.length then
      (k51 rb (List.replicate y1.1.length (0 : Int)) y1.1 (((y1.1.length : Nat) : Int)) 0).bind fun (z2 : List Int × List Int) =>
      (c36 rf d1.2.2).bind fun (y3 : List Int) =>
      (k52 rb d1 z2.1 z2.2 [] [] y3 (((z2.2.length : Nat) : Int)) 0).bind fun (z4 : XT × List Int × List Int × List Int × List Int × List XO) =>
      (k53 rb z4.2.1 z4.2.2.2.2.2 z4.2.2.2.1 z4.2.2.2.2.1 z4.1.2.1 (((z4.1.2.1.length : Nat) : Int)) 0).bind fun (z5 : List Int × XT) =>
      some ((z5.2.1, z5.2.2.2, z5.2.2.1), 0)
    else
      none
  else
    none
theorem er35 (rf : T.RF) (rb : T.RB) (d1 : XT) : T.stepF rf rb 35 d1 = r35 rf rb d1 := by kernel_rfl
theorem or35 {d1 : XT} {y : (XT × Int)} (h : r35 T.rf T.rb d1 = some y) : c35 T.rf d1 = some y := T.rf_of (f := 35) (d := d1) ((er35 T.rf T.rb d1).trans h)

/- bailmentref03.Ints loop 0 -/
noncomputable def b54 (rf : T.RF) (rb : T.RB) (d1 : List Int) (d2 : List Int) (d3 : Int) : Option (Bool ⊕ Unit) :=
  bif decide (d3 < (((d1.length : Nat) : Int))) then
    bif inb d3 d1.length then
      (nth d1 d3.toNat).bind fun (x1 : Int) =>
      bif inb d3 d2.length then
        (nth d2 d3.toNat).bind fun (x2 : Int) =>
        bif x1 != x2 then
          some (.inl false)
        else
          k54 rb d1 d2 (IntKind.i64.wrap (d3 + 1))
      else
        none
    else
      none
  else
    some (.inr ())
theorem eb54 (rf : T.RF) (rb : T.RB) (d1 : List Int) (d2 : List Int) (d3 : Int) : T.stepB rf rb 54 (d1, d2, d3) = b54 rf rb d1 d2 d3 := by kernel_rfl
theorem ob54 {d1 : List Int} {d2 : List Int} {d3 : Int} {y : (Bool ⊕ Unit)} (h : b54 T.rf T.rb d1 d2 d3 = some y) : k54 T.rb d1 d2 d3 = some y := T.rb_of (κ := 54) (d := (d1, d2, d3)) ((eb54 T.rf T.rb d1 d2 d3).trans h)

/- bailmentref03.Ints -/
noncomputable def r37 (rf : T.RF) (rb : T.RB) (d1 : List Int) (d2 : List Int) : Option Bool :=
  bif (((d1.length : Nat) : Int)) != (((d2.length : Nat) : Int)) then
    some false
  else
    (k54 rb d1 d2 0).bind fun (z1 : Bool ⊕ Unit) =>
    match z1 with
    | .inl u2 =>
      some u2
    | .inr w3 =>
      some true
theorem er37 (rf : T.RF) (rb : T.RB) (d1 : List Int) (d2 : List Int) : T.stepF rf rb 37 (d1, d2) = r37 rf rb d1 d2 := by kernel_rfl
theorem or37 {d1 : List Int} {d2 : List Int} {y : Bool} (h : r37 T.rf T.rb d1 d2 = some y) : c37 T.rf d1 d2 = some y := T.rf_of (f := 37) (d := (d1, d2)) ((er37 T.rf T.rb d1 d2).trans h)

/- sched.Is$1 -/
noncomputable def r41 (rf : T.RF) (rb : T.RB) (d1 : Int) (d2 : Int) : Option (Int × Bool) :=
  some (d1, decide (d2 ≥ d1))
theorem er41 (rf : T.RF) (rb : T.RB) (d1 : Int) (d2 : Int) : T.stepF rf rb 41 (d1, d2) = r41 rf rb d1 d2 := by kernel_rfl
theorem or41 {d1 : Int} {d2 : Int} {y : (Int × Bool)} (h : r41 T.rf T.rb d1 d2 = some y) : c41 T.rf d1 d2 = some y := T.rf_of (f := 41) (d := (d1, d2)) ((er41 T.rf T.rb d1 d2).trans h)

/- slices.IndexFunc[[]int,int] loop 0 -/
noncomputable def b56 (rf : T.RF) (rb : T.RB) (d1 : Int) (d2 : List Int) (d3 : Int) (d4 : Int) : Option ((Int × Int) ⊕ Int) :=
  bif decide (d4 < d3) then
    bif inb d4 d2.length then
      (nth d2 d4.toNat).bind fun (x1 : Int) =>
      (c41 rf d1 x1).bind fun (y2 : Int × Bool) =>
      bif y2.2 then
        some (.inl (y2.1, d4))
      else
        k56 rb y2.1 d2 d3 (IntKind.i64.wrap (d4 + 1))
    else
      none
  else
    some (.inr d1)
theorem eb56 (rf : T.RF) (rb : T.RB) (d1 : Int) (d2 : List Int) (d3 : Int) (d4 : Int) : T.stepB rf rb 56 (d1, d2, d3, d4) = b56 rf rb d1 d2 d3 d4 := by kernel_rfl
theorem ob56 {d1 : Int} {d2 : List Int} {d3 : Int} {d4 : Int} {y : ((Int × Int) ⊕ Int)} (h : b56 T.rf T.rb d1 d2 d3 d4 = some y) : k56 T.rb d1 d2 d3 d4 = some y := T.rb_of (κ := 56) (d := (d1, d2, d3, d4)) ((eb56 T.rf T.rb d1 d2 d3 d4).trans h)

/- slices.IndexFunc[[]int,int] -/
noncomputable def r40 (rf : T.RF) (rb : T.RB) (d1 : Int) (d2 : List Int) : Option (Int × Int) :=
  (k56 rb d1 d2 (((d2.length : Nat) : Int)) 0).bind fun (z1 : (Int × Int) ⊕ Int) =>
  match z1 with
  | .inl u2 =>
    some u2
  | .inr w3 =>
    some (w3, (-1))
theorem er40 (rf : T.RF) (rb : T.RB) (d1 : Int) (d2 : List Int) : T.stepF rf rb 40 (d1, d2) = r40 rf rb d1 d2 := by kernel_rfl
theorem or40 {d1 : Int} {d2 : List Int} {y : (Int × Int)} (h : r40 T.rf T.rb d1 d2 = some y) : c40 T.rf d1 d2 = some y := T.rf_of (f := 40) (d := (d1, d2)) ((er40 T.rf T.rb d1 d2).trans h)

/- slices.ContainsFunc[[]int,int] -/
noncomputable def r39 (rf : T.RF) (rb : T.RB) (d1 : Int) (d2 : List Int) : Option (Int × Bool) :=
  (c40 rf d1 d2).bind fun (y1 : Int × Int) =>
  some (y1.1, decide (y1.2 ≥ 0))
theorem er39 (rf : T.RF) (rb : T.RB) (d1 : Int) (d2 : List Int) : T.stepF rf rb 39 (d1, d2) = r39 rf rb d1 d2 := by kernel_rfl
theorem or39 {d1 : Int} {d2 : List Int} {y : (Int × Bool)} (h : r39 T.rf T.rb d1 d2 = some y) : c39 T.rf d1 d2 = some y := T.rf_of (f := 39) (d := (d1, d2)) ((er39 T.rf T.rb d1 d2).trans h)

/- sched.Is loop 0 -/
noncomputable def b55 (rf : T.RF) (rb : T.RB) (d1 : List XO) (d2 : Int) (d3 : Int) : Option (Bool ⊕ Unit) :=
  bif decide (d3 < d2) then
    bif inb d3 d1.length then
      (nth d1 d3.toNat).bind fun (x1 : XO) =>
      (c22 rf x1).bind fun (y2 : List Int) =>
      (c39 rf d3 y2).bind fun (y3 : Int × Bool) =>
      bif y3.2 then
        some (.inl false)
      else
        k55 rb d1 d2 (IntKind.i64.wrap (d3 + 1))
    else
      none
  else
    some (.inr ())
theorem eb55 (rf : T.RF) (rb : T.RB) (d1 : List XO) (d2 : Int) (d3 : Int) : T.stepB rf rb 55 (d1, d2, d3) = b55 rf rb d1 d2 d3 := by kernel_rfl
theorem ob55 {d1 : List XO} {d2 : Int} {d3 : Int} {y : (Bool ⊕ Unit)} (h : b55 T.rf T.rb d1 d2 d3 = some y) : k55 T.rb d1 d2 d3 = some y := T.rb_of (κ := 55) (d := (d1, d2, d3)) ((eb55 T.rf T.rb d1 d2 d3).trans h)

/- sched.Is -/
noncomputable def r38 (rf : T.RF) (rb : T.RB) (d1 : XT) : Option Bool :=
  (c5 rf d1).bind fun (y1 : Int) =>
  bif y1 != 0 then
    some false
  else
    (k55 rb d1.1 (((d1.1.length : Nat) : Int)) 0).bind fun (z2 : Bool ⊕ Unit) =>
    match z2 with
    | .inl u3 =>
      some u3
    | .inr w4 =>
      some true
theorem er38 (rf : T.RF) (rb : T.RB) (d1 : XT) : T.stepF rf rb 38 d1 = r38 rf rb d1 := by kernel_rfl
theorem or38 {d1 : XT} {y : Bool} (h : r38 T.rf T.rb d1 = some y) : c38 T.rf d1 = some y := T.rf_of (f := 38) (d := d1) ((er38 T.rf T.rb d1).trans h)

/- math/bits.Mul64 -/
noncomputable def r45 (rf : T.RF) (rb : T.RB) (d1 : Int) (d2 : Int) : Option (Int × Int) :=
  some (IntKind.u64.wrap ((IntKind.u64.wrap ((IntKind.u64.wrap ((shrI IntKind.u64 d1 32) * (shrI IntKind.u64 d2 32))) + (shrI IntKind.u64 (IntKind.u64.wrap ((IntKind.u64.wrap ((shrI IntKind.u64 d1 32) * (andI IntKind.u64 d2 4294967295))) + (shrI IntKind.u64 (IntKind.u64.wrap ((andI IntKind.u64 d1 4294967295) * (andI IntKind.u64 d2 4294967295))) 32))) 32))) + (shrI IntKind.u64 (IntKind.u64.wrap ((andI IntKind.u64 (IntKind.u64.wrap ((IntKind.u64.wrap ((shrI IntKind.u64 d1 32) * (andI IntKind.u64 d2 4294967295))) + (shrI IntKind.u64 (IntKind.u64.wrap ((andI IntKind.u64 d1 4294967295) * (andI IntKind.u64 d2 4294967295))) 32))) 4294967295) + (IntKind.u64.wrap ((andI IntKind.u64 d1 4294967295) * (shrI IntKind.u64 d2 32))))) 32)), IntKind.u64.wrap (d1 * d2))
theorem er45 (rf : T.RF) (rb : T.RB) (d1 : Int) (d2 : Int) : T.stepF rf rb 45 (d1, d2) = r45 rf rb d1 d2 := by kernel_rfl
theorem or45 {d1 : Int} {d2 : Int} {y : (Int × Int)} (h : r45 T.rf T.rb d1 d2 = some y) : c45 T.rf d1 d2 = some y := T.rf_of (f := 45) (d := (d1, d2)) ((er45 T.rf T.rb d1 d2).trans h)

/- math/bits.Mul -/
noncomputable def r44 (rf : T.RF) (rb : T.RB) (d1 : Int) (d2 : Int) : Option (Int × Int) :=
  (c45 rf d1 d2).bind fun (y1 : Int × Int) =>
  some y1
theorem er44 (rf : T.RF) (rb : T.RB) (d1 : Int) (d2 : Int) : T.stepF rf rb 44 (d1, d2) = r44 rf rb d1 d2 := by kernel_rfl
theorem or44 {d1 : Int} {d2 : Int} {y : (Int × Int)} (h : r44 T.rf T.rb d1 d2 = some y) : c44 T.rf d1 d2 = some y := T.rf_of (f := 44) (d := (d1, d2)) ((er44 T.rf T.rb d1 d2).trans h)

/- slices.Repeat[[]int,int] tail 3 -/
noncomputable def b59 (rf : T.RF) (rb : T.RB) (d1 : List Int) (d2 : Int) : Option (List Int) :=
  (c44 rf (IntKind.u64.wrap (((d1.length : Nat) : Int))) (IntKind.u64.wrap d2)).bind fun (y1 : Int × Int) =>
  bif decide (y1.1 > 0) then
    none
  else
  bif decide (y1.2 > 9223372036854775807) then
    none
  else
  bif inb' (IntKind.i64.wrap y1.2) most then
    bif inb' (IntKind.i64.wrap y1.2) (IntKind.i64.wrap y1.2).toNat then
      bif Nat.ble (0 + (List.take (List.replicate (IntKind.i64.wrap y1.2).toNat (0 : Int)).length d1).length) (List.replicate (IntKind.i64.wrap y1.2).toNat (0 : Int)).length then
        (k60 rb (((List.take 0 (List.replicate (IntKind.i64.wrap y1.2).toNat (0 : Int))) ++ (List.take (List.replicate (IntKind.i64.wrap y1.2).toNat (0 : Int)).length d1)) ++ (List.drop (0 + (List.take (List.replicate (IntKind.i64.wrap y1.2).toNat (0 : Int)).length d1).length) (List.replicate (IntKind.i64.wrap y1.2).toNat (0 : Int)))) ((((min d1.length (List.replicate (IntKind.i64.wrap y1.2).toNat (0 : Int)).length) : Nat) : Int))).bind fun (z2 : List Int) =>
        some z2
      else
        none
    else
      none
  else
    none
theorem eb59 (rf : T.RF) (rb : T.RB) (d1 : List Int) (d2 : Int) : T.stepB rf rb 59 (d1, d2) = b59 rf rb d1 d2 := by kernel_rfl
theorem ob59 {d1 : List Int} {d2 : Int} {y : (List Int)} (h : b59 T.rf T.rb d1 d2 = some y) : k59 T.rb d1 d2 = some y := T.rb_of (κ := 59) (d := (d1, d2)) ((eb59 T.rf T.rb d1 d2).trans h)

/- slices.Repeat[[]int,int] loop 0 -/
noncomputable def b60 (rf : T.RF) (rb : T.RB) (d1 : List Int) (d2 : Int) : Option (List Int) :=
  bif decide (d2 < (((d1.length : Nat) : Int))) then
    bif inb' d2 d1.length then
      bif inb' d2 d1.length then
        bif Nat.ble (d2.toNat + (List.take (d1.length - d2.toNat) (sub d1 (some (0, (d2.toNat - 0))))).length) d1.length then
          k60 rb (((List.take d2.toNat d1) ++ (List.take (d1.length - d2.toNat) (sub d1 (some (0, (d2.toNat - 0)))))) ++ (List.drop (d2.toNat + (List.take (d1.length - d2.toNat) (sub d1 (some (0, (d2.toNat - 0))))).length) d1)) (IntKind.i64.wrap (d2 + ((((min (sub d1 (some (0, (d2.toNat - 0)))).length (d1.length - d2.toNat)) : Nat) : Int))))
        else
          none
      else
        none
    else
      none
  else
    some d1
theorem eb60 (rf : T.RF) (rb : T.RB) (d1 : List Int) (d2 : Int) : T.stepB rf rb 60 (d1, d2) = b60 rf rb d1 d2 := by kernel_rfl
theorem ob60 {d1 : List Int} {d2 : Int} {y : (List Int)} (h : b60 T.rf T.rb d1 d2 = some y) : k60 T.rb d1 d2 = some y := T.rb_of (κ := 60) (d := (d1, d2)) ((eb60 T.rf T.rb d1 d2).trans h)

/- slices.Repeat[[]int,int] -/
noncomputable def r43 (rf : T.RF) (rb : T.RB) (d1 : List Int) (d2 : Int) : Option (List Int) :=
  bif decide (d2 < 0) then
    none
  else
    (k59 rb d1 d2).bind fun (z1 : List Int) =>
    some z1
theorem er43 (rf : T.RF) (rb : T.RB) (d1 : List Int) (d2 : Int) : T.stepF rf rb 43 (d1, d2) = r43 rf rb d1 d2 := by kernel_rfl
theorem or43 {d1 : List Int} {d2 : Int} {y : (List Int)} (h : r43 T.rf T.rb d1 d2 = some y) : c43 T.rf d1 d2 = some y := T.rf_of (f := 43) (d := (d1, d2)) ((er43 T.rf T.rb d1 d2).trans h)

/- sched.Ends loop 0 -/
noncomputable def b61 (rf : T.RF) (rb : T.RB) (d1 : List Int) (d2 : List XO) (d3 : Int) (d4 : Int) : Option (List Int) :=
  bif decide (d4 < d3) then
    bif inb d4 d2.length then
      (nth d2 d4.toNat).bind fun (x1 : XO) =>
      (c22 rf x1).bind fun (y2 : List Int) =>
      (k62 rb d1 y2 d4 (((y2.length : Nat) : Int)) 0).bind fun (z3 : List Int × List Int) =>
      k61 rb z3.1 d2 d3 (IntKind.i64.wrap (d4 + 1))
    else
      none
  else
    some d1
theorem eb61 (rf : T.RF) (rb : T.RB) (d1 : List Int) (d2 : List XO) (d3 : Int) (d4 : Int) : T.stepB rf rb 61 (d1, d2, d3, d4) = b61 rf rb d1 d2 d3 d4 := by kernel_rfl
theorem ob61 {d1 : List Int} {d2 : List XO} {d3 : Int} {d4 : Int} {y : (List Int)} (h : b61 T.rf T.rb d1 d2 d3 d4 = some y) : k61 T.rb d1 d2 d3 d4 = some y := T.rb_of (κ := 61) (d := (d1, d2, d3, d4)) ((eb61 T.rf T.rb d1 d2 d3 d4).trans h)

/- sched.Ends loop 2 -/
noncomputable def b62 (rf : T.RF) (rb : T.RB) (d1 : List Int) (d2 : List Int) (d3 : Int) (d4 : Int) (d5 : Int) : Option (List Int × List Int) :=
  bif decide (d5 < d4) then
    bif inb d5 d2.length then
      (nth d2 d5.toNat).bind fun (x1 : Int) =>
      bif inb x1 d1.length then
        bif Nat.blt x1.toNat d1.length then
          k62 rb (setNth d1 x1.toNat d3) d2 d3 d4 (IntKind.i64.wrap (d5 + 1))
        else
          none
      else
        none
    else
      none
  else
    some (d1, d2)
theorem eb62 (rf : T.RF) (rb : T.RB) (d1 : List Int) (d2 : List Int) (d3 : Int) (d4 : Int) (d5 : Int) : T.stepB rf rb 62 (d1, d2, d3, d4, d5) = b62 rf rb d1 d2 d3 d4 d5 := by kernel_rfl
theorem ob62 {d1 : List Int} {d2 : List Int} {d3 : Int} {d4 : Int} {d5 : Int} {y : (List Int × List Int)} (h : b62 T.rf T.rb d1 d2 d3 d4 d5 = some y) : k62 T.rb d1 d2 d3 d4 d5 = some y := T.rb_of (κ := 62) (d := (d1, d2, d3, d4, d5)) ((eb62 T.rf T.rb d1 d2 d3 d4 d5).trans h)

/- sched.Ends -/
noncomputable def r42 (rf : T.RF) (rb : T.RB) (d1 : XT) : Option (List Int) :=
  (c38 rf d1).bind fun (y1 : Bool) =>
  bif !y1 then
    some []
  else
    (c43 rf [(-1)] (((d1.1.length : Nat) : Int))).bind fun (y2 : List Int) =>
    (k61 rb y2 d1.1 (((d1.1.length : Nat) : Int)) 0).bind fun (z3 : List Int) =>
    some z3
theorem er42 (rf : T.RF) (rb : T.RB) (d1 : XT) : T.stepF rf rb 42 d1 = r42 rf rb d1 := by kernel_rfl
theorem or42 {d1 : XT} {y : (List Int)} (h : r42 T.rf T.rb d1 = some y) : c42 T.rf d1 = some y := T.rf_of (f := 42) (d := d1) ((er42 T.rf T.rb d1).trans h)

/- bailmentlaw15.live -/
noncomputable def r2 (rf : T.RF) (rb : T.RB) : Option Bool :=
  (c3 rf ([(14, 1, 2, (-1), 0), (3, (-1), (-1), (-1), 0), (1, (-1), (-1), (-1), 3)], [0], [2])).bind fun (y1 : XT) =>
  (c4 rf y1).bind fun (y2 : List Int × Int) =>
  (c3 rf ([(14, 1, 2, (-1), 0), (3, (-1), (-1), (-1), 0), (1, (-1), (-1), (-1), 3)], [0], [2])).bind fun (y3 : XT) =>
  (c35 rf y3).bind fun (y4 : XT × Int) =>
  bif (((y4.1.1.length : Nat) : Int)) != 3 then
    some false
  else
    (c37 rf y2.1 [1, 2, 0]).bind fun (y5 : Bool) =>
    bif y5 then
      bif y2.2 == 0 then
        bif y4.2 == 0 then
          bif inb 2 y4.1.1.length then
            (nth y4.1.1 2).bind fun (x6 : XO) =>
            bif x6.2.1 == 0 then
              bif inb 2 y4.1.1.length then
                (nth y4.1.1 2).bind fun (x7 : XO) =>
                bif x7.2.2.1 == 1 then
                  (c37 rf y4.1.2.1 [2]).bind fun (y8 : Bool) =>
                  bif y8 then
                    (c3 rf ([(14, 1, 2, (-1), 0), (3, (-1), (-1), (-1), 0), (1, (-1), (-1), (-1), 3)], [0], [2])).bind fun (y9 : XT) =>
                    (c38 rf y9).bind fun (y10 : Bool) =>
                    bif !y10 then
                      (c38 rf y4.1).bind fun (y11 : Bool) =>
                      bif y11 then
                        (c42 rf y4.1).bind fun (y12 : List Int) =>
                        (c37 rf y12 [2, 2, (-1)]).bind fun (y13 : Bool) =>
                        some y13
                      else
                        some false
                    else
                      some false
                  else
                    some false
                else
                  some false
              else
                none
            else
              some false
          else
            none
        else
          some false
      else
        some false
    else
      some false
theorem er2 (rf : T.RF) (rb : T.RB) : T.stepF rf rb 2 () = r2 rf rb := by kernel_rfl
theorem or2 {y : Bool} (h : r2 T.rf T.rb = some y) : c2 T.rf = some y := T.rf_of (f := 2) (d := ()) ((er2 T.rf T.rb).trans h)

/- bailmentref01.Operands -/
noncomputable def r50 (rf : T.RF) (rb : T.RB) (d1 : Int) : Option Int :=
  bif d1 == 4 then
    bif d1 == 4 then
      some 1
    else
    bif d1 == 26 then
      some 3
    else
    bif decide (d1 ≥ 6) then
      bif decide (d1 ≤ 18) then
        some 2
      else
        some (-1)
    else
      some (-1)
  else
  bif d1 == 5 then
    some 1
  else
  bif d1 == 26 then
    some 3
  else
  bif decide (d1 ≥ 6) then
    bif decide (d1 ≤ 18) then
      some 2
    else
      some (-1)
  else
    some (-1)
theorem er50 (rf : T.RF) (rb : T.RB) (d1 : Int) : T.stepF rf rb 50 d1 = r50 rf rb d1 := by kernel_rfl
theorem or50 {d1 : Int} {y : Int} (h : r50 T.rf T.rb d1 = some y) : c50 T.rf d1 = some y := T.rf_of (f := 50) (d := d1) ((er50 T.rf T.rb d1).trans h)

/- bailmentref14.Kids -/
noncomputable def r49 (rf : T.RF) (rb : T.RB) (d1 : Int) : Option Int :=
  bif d1 == 3 then
    bif d1 == 3 then
      some 0
    else
    bif d1 == 21 then
      some 1
    else
    bif d1 == 19 then
      some 2
    else
      (c50 rf d1).bind fun (y1 : Int) =>
      some y1
  else
  bif d1 == 1 then
    bif d1 == 1 then
      some 0
    else
    bif d1 == 21 then
      some 1
    else
    bif d1 == 19 then
      some 2
    else
      (c50 rf d1).bind fun (y2 : Int) =>
      some y2
  else
  bif d1 == 2 then
    some 0
  else
  bif d1 == 21 then
    some 1
  else
  bif d1 == 19 then
    some 2
  else
    (c50 rf d1).bind fun (y3 : Int) =>
    some y3
theorem er49 (rf : T.RF) (rb : T.RB) (d1 : Int) : T.stepF rf rb 49 d1 = r49 rf rb d1 := by kernel_rfl
theorem or49 {d1 : Int} {y : Int} (h : r49 T.rf T.rb d1 = some y) : c49 T.rf d1 = some y := T.rf_of (f := 49) (d := d1) ((er49 T.rf T.rb d1).trans h)

/- bailmentref01.Fits -/
noncomputable def r52 (rf : T.RF) (rb : T.RB) (d1 : Int) : Option Bool :=
  bif decide (d1 ≥ (-2147483648)) then
    some (decide (d1 ≤ 2147483647))
  else
    some false
theorem er52 (rf : T.RF) (rb : T.RB) (d1 : Int) : T.stepF rf rb 52 d1 = r52 rf rb d1 := by kernel_rfl
theorem or52 {d1 : Int} {y : Bool} (h : r52 T.rf T.rb d1 = some y) : c52 T.rf d1 = some y := T.rf_of (f := 52) (d := d1) ((er52 T.rf T.rb d1).trans h)

/- bailmentref14.plain -/
noncomputable def r51 (rf : T.RF) (rb : T.RB) (d1 : XT) (d2 : XO) : Option Bool :=
  bif d2.1 == 3 then
    bif decide (d2.2.2.2.2 ≥ 0) then
      some (decide (d2.2.2.2.2 < (((d1.2.2.length : Nat) : Int))))
    else
      some false
  else
  bif d2.1 == 1 then
    (c52 rf d2.2.2.2.2).bind fun (y1 : Bool) =>
    some y1
  else
  bif d2.1 == 2 then
    bif d2.2.2.2.2 == 0 then
      some true
    else
      some (d2.2.2.2.2 == 1)
  else
    some (d2.2.2.2.2 == 0)
theorem er51 (rf : T.RF) (rb : T.RB) (d1 : XT) (d2 : XO) : T.stepF rf rb 51 (d1, d2) = r51 rf rb d1 d2 := by kernel_rfl
theorem or51 {d1 : XT} {d2 : XO} {y : Bool} (h : r51 T.rf T.rb d1 d2 = some y) : c51 T.rf d1 d2 = some y := T.rf_of (f := 51) (d := (d1, d2)) ((er51 T.rf T.rb d1 d2).trans h)

/- bailmentref14.operand -/
noncomputable def r53 (rf : T.RF) (rb : T.RB) (d1 : XT) (d2 : Int) (d3 : Int) (d4 : Int) : Option Bool :=
  bif decide (d4 ≥ d3) then
    some (d2 == (-1))
  else
  bif decide (d2 ≥ 0) then
    some (decide (d2 < (((d1.1.length : Nat) : Int))))
  else
    some false
theorem er53 (rf : T.RF) (rb : T.RB) (d1 : XT) (d2 : Int) (d3 : Int) (d4 : Int) : T.stepF rf rb 53 (d1, d2, d3, d4) = r53 rf rb d1 d2 d3 d4 := by kernel_rfl
theorem or53 {d1 : XT} {d2 : Int} {d3 : Int} {d4 : Int} {y : Bool} (h : r53 T.rf T.rb d1 d2 d3 d4 = some y) : c53 T.rf d1 d2 d3 d4 = some y := T.rf_of (f := 53) (d := (d1, d2, d3, d4)) ((er53 T.rf T.rb d1 d2 d3 d4).trans h)

/- bailmentref14.May loop 0 -/
noncomputable def b63 (rf : T.RF) (rb : T.RB) (d1 : XT) (d2 : Int) : Option ((XT × Bool) ⊕ XT) :=
  bif decide (d2 < (((d1.1.length : Nat) : Int))) then
    bif inb d2 d1.1.length then
      (nth d1.1 d2.toNat).bind fun (x1 : XO) =>
      (c49 rf x1.1).bind fun (y2 : Int) =>
      bif decide (y2 < 0) then
        some (.inl (d1, false))
      else
        (c51 rf d1 x1).bind fun (y3 : Bool) =>
        bif !y3 then
          some (.inl (d1, false))
        else
          (c53 rf d1 x1.2.1 y2 0).bind fun (y4 : Bool) =>
          bif !y4 then
            some (.inl (d1, false))
          else
            (c53 rf d1 x1.2.2.1 y2 1).bind fun (y5 : Bool) =>
            bif !y5 then
              some (.inl (d1, false))
            else
              (c53 rf d1 x1.2.2.2.1 y2 2).bind fun (y6 : Bool) =>
              bif !y6 then
                some (.inl (d1, false))
              else
                k63 rb d1 (IntKind.i64.wrap (d2 + 1))
    else
      none
  else
    some (.inr d1)
theorem eb63 (rf : T.RF) (rb : T.RB) (d1 : XT) (d2 : Int) : T.stepB rf rb 63 (d1, d2) = b63 rf rb d1 d2 := by kernel_rfl
theorem ob63 {d1 : XT} {d2 : Int} {y : ((XT × Bool) ⊕ XT)} (h : b63 T.rf T.rb d1 d2 = some y) : k63 T.rb d1 d2 = some y := T.rb_of (κ := 63) (d := (d1, d2)) ((eb63 T.rf T.rb d1 d2).trans h)

/- bailmentref14.May loop 2 -/
noncomputable def b64 (rf : T.RF) (rb : T.RB) (d1 : XT) (d2 : Int) : Option ((XT × Bool) ⊕ XT) :=
  bif decide (d2 < (((d1.2.1.length : Nat) : Int))) then
    bif inb d2 d1.2.1.length then
      (nth d1.2.1 d2.toNat).bind fun (x1 : Int) =>
      bif decide (x1 < 0) then
        some (.inl (d1, false))
      else
      bif inb d2 d1.2.1.length then
        (nth d1.2.1 d2.toNat).bind fun (x2 : Int) =>
        bif decide (x2 ≥ (((d1.1.length : Nat) : Int))) then
          some (.inl (d1, false))
        else
          k64 rb d1 (IntKind.i64.wrap (d2 + 1))
      else
        none
    else
      none
  else
    some (.inr d1)
theorem eb64 (rf : T.RF) (rb : T.RB) (d1 : XT) (d2 : Int) : T.stepB rf rb 64 (d1, d2) = b64 rf rb d1 d2 := by kernel_rfl
theorem ob64 {d1 : XT} {d2 : Int} {y : ((XT × Bool) ⊕ XT)} (h : b64 T.rf T.rb d1 d2 = some y) : k64 T.rb d1 d2 = some y := T.rb_of (κ := 64) (d := (d1, d2)) ((eb64 T.rf T.rb d1 d2).trans h)

/- bailmentref14.May -/
noncomputable def r48 (rf : T.RF) (rb : T.RB) (d1 : XT) : Option Bool :=
  bif decide ((((d1.1.length : Nat) : Int)) > 100000) then
    some false
  else
    (k63 rb d1 0).bind fun (z1 : (XT × Bool) ⊕ XT) =>
    match z1 with
    | .inl u2 =>
      some u2.2
    | .inr w3 =>
      (k64 rb w3 0).bind fun (z4 : (XT × Bool) ⊕ XT) =>
      match z4 with
      | .inl u5 =>
        some u5.2
      | .inr w6 =>
        some true
theorem er48 (rf : T.RF) (rb : T.RB) (d1 : XT) : T.stepF rf rb 48 d1 = r48 rf rb d1 := by kernel_rfl
theorem or48 {d1 : XT} {y : Bool} (h : r48 T.rf T.rb d1 = some y) : c48 T.rf d1 = some y := T.rf_of (f := 48) (d := d1) ((er48 T.rf T.rb d1).trans h)

/- bailmentref14.Operands -/
noncomputable def r55 (rf : T.RF) (rb : T.RB) (d1 : XO) : Option (List Int) :=
  bif d1.1 == 21 then
    some []
  else
    (c49 rf d1.1).bind fun (y1 : Int) =>
    bif inb' y1 3 then
      some (sub [d1.2.1, d1.2.2.1, d1.2.2.2.1] (some (0, (y1.toNat - 0))))
    else
      none
theorem er55 (rf : T.RF) (rb : T.RB) (d1 : XO) : T.stepF rf rb 55 d1 = r55 rf rb d1 := by kernel_rfl
theorem or55 {d1 : XO} {y : (List Int)} (h : r55 T.rf T.rb d1 = some y) : c55 T.rf d1 = some y := T.rf_of (f := 55) (d := d1) ((er55 T.rf T.rb d1).trans h)

/- bailmentref14.Order loop 0 -/
noncomputable def b68 (rf : T.RF) (rb : T.RB) (d1 : XT) (d2 : List Bool) (d3 : List Int) : Option (XT × List Bool × List Int) :=
  (k69 rb d1 d2 (-1) (IntKind.i64.wrap ((((d1.1.length : Nat) : Int)) - 1))).bind fun (z1 : XT × List Bool × Int) =>
  bif decide (z1.2.2 < 0) then
    some (z1.1, z1.2.1, d3)
  else
  bif inb z1.2.2 z1.2.1.length then
    bif Nat.blt z1.2.2.toNat z1.2.1.length then
      bif (Nat.ble (d3.length + 1) most) && true then
        k68 rb z1.1 (setNth z1.2.1 z1.2.2.toNat true) (d3 ++ [z1.2.2])
      else
        none
    else
      none
  else
    none
theorem eb68 (rf : T.RF) (rb : T.RB) (d1 : XT) (d2 : List Bool) (d3 : List Int) : T.stepB rf rb 68 (d1, d2, d3) = b68 rf rb d1 d2 d3 := by kernel_rfl
theorem ob68 {d1 : XT} {d2 : List Bool} {d3 : List Int} {y : (XT × List Bool × List Int)} (h : b68 T.rf T.rb d1 d2 d3 = some y) : k68 T.rb d1 d2 d3 = some y := T.rb_of (κ := 68) (d := (d1, d2, d3)) ((eb68 T.rf T.rb d1 d2 d3).trans h)

/- bailmentref14.Order loop 2 -/
noncomputable def b69 (rf : T.RF) (rb : T.RB) (d1 : XT) (d2 : List Bool) (d3 : Int) (d4 : Int) : Option (XT × List Bool × Int) :=
  bif decide (d4 ≥ 0) then
    bif inb d4 d2.length then
      (nth d2 d4.toNat).bind fun (x1 : Bool) =>
      bif inb d4 d1.1.length then
        (nth d1.1 d4.toNat).bind fun (x2 : XO) =>
        (c55 rf x2).bind fun (y3 : List Int) =>
        (k70 rb d2 y3 (!x1) 0).bind fun (z4 : List Bool × List Int × Bool) =>
        bif z4.2.2 then
          k69 rb d1 z4.1 d4 (IntKind.i64.wrap (d4 - 1))
        else
          k69 rb d1 z4.1 d3 (IntKind.i64.wrap (d4 - 1))
      else
        none
    else
      none
  else
    some (d1, d2, d3)
theorem eb69 (rf : T.RF) (rb : T.RB) (d1 : XT) (d2 : List Bool) (d3 : Int) (d4 : Int) : T.stepB rf rb 69 (d1, d2, d3, d4) = b69 rf rb d1 d2 d3 d4 := by kernel_rfl
theorem ob69 {d1 : XT} {d2 : List Bool} {d3 : Int} {d4 : Int} {y : (XT × List Bool × Int)} (h : b69 T.rf T.rb d1 d2 d3 d4 = some y) : k69 T.rb d1 d2 d3 d4 = some y := T.rb_of (κ := 69) (d := (d1, d2, d3, d4)) ((eb69 T.rf T.rb d1 d2 d3 d4).trans h)

/- bailmentref14.Order loop 4 -/
noncomputable def b70 (rf : T.RF) (rb : T.RB) (d1 : List Bool) (d2 : List Int) (d3 : Bool) (d4 : Int) : Option (List Bool × List Int × Bool) :=
  bif decide (d4 < (((d2.length : Nat) : Int))) then
    bif d3 then
      bif inb d4 d2.length then
        (nth d2 d4.toNat).bind fun (x1 : Int) =>
        bif inb x1 d1.length then
          (nth d1 x1.toNat).bind fun (x2 : Bool) =>
          k70 rb d1 d2 x2 (IntKind.i64.wrap (d4 + 1))
        else
          none
      else
        none
    else
      k70 rb d1 d2 false (IntKind.i64.wrap (d4 + 1))
  else
    some (d1, d2, d3)
theorem eb70 (rf : T.RF) (rb : T.RB) (d1 : List Bool) (d2 : List Int) (d3 : Bool) (d4 : Int) : T.stepB rf rb 70 (d1, d2, d3, d4) = b70 rf rb d1 d2 d3 d4 := by kernel_rfl
theorem ob70 {d1 : List Bool} {d2 : List Int} {d3 : Bool} {d4 : Int} {y : (List Bool × List Int × Bool)} (h : b70 T.rf T.rb d1 d2 d3 d4 = some y) : k70 T.rb d1 d2 d3 d4 = some y := T.rb_of (κ := 70) (d := (d1, d2, d3, d4)) ((eb70 T.rf T.rb d1 d2 d3 d4).trans h)

/- bailmentref14.Order -/
noncomputable def r54 (rf : T.RF) (rb : T.RB) (d1 : XT) : Option (List Int) :=
  bif inb' (((d1.1.length : Nat) : Int)) most then
    bif inb' (((d1.1.length : Nat) : Int)) d1.1.length then
      (k68 rb d1 (List.replicate d1.1.length false) []).bind fun (z1 : XT × List Bool × List Int) =>
      some z1.2.2
    else
      none
  else
    none
theorem er54 (rf : T.RF) (rb : T.RB) (d1 : XT) : T.stepF rf rb 54 d1 = r54 rf rb d1 := by kernel_rfl
theorem or54 {d1 : XT} {y : (List Int)} (h : r54 T.rf T.rb d1 = some y) : c54 T.rf d1 = some y := T.rf_of (f := 54) (d := d1) ((er54 T.rf T.rb d1).trans h)

/- bailmentref14.Check -/
noncomputable def r47 (rf : T.RF) (rb : T.RB) (d1 : XT) : Option Int :=
  (c48 rf d1).bind fun (y1 : Bool) =>
  bif !y1 then
    some 1
  else
    (c54 rf d1).bind fun (y2 : List Int) =>
    bif decide ((((y2.length : Nat) : Int)) < (((d1.1.length : Nat) : Int))) then
      some 12
    else
      some 0
theorem er47 (rf : T.RF) (rb : T.RB) (d1 : XT) : T.stepF rf rb 47 d1 = r47 rf rb d1 := by kernel_rfl
theorem or47 {d1 : XT} {y : Int} (h : r47 T.rf T.rb d1 = some y) : c47 T.rf d1 = some y := T.rf_of (f := 47) (d := d1) ((er47 T.rf T.rb d1).trans h)

/- bailmentref15.Order -/
noncomputable def r46 (rf : T.RF) (rb : T.RB) (d1 : XT) : Option (List Int × Int) :=
  (c47 rf d1).bind fun (y1 : Int) =>
  bif y1 != 0 then
    some ([], y1)
  else
    (c54 rf d1).bind fun (y2 : List Int) =>
    some (y2, 0)
theorem er46 (rf : T.RF) (rb : T.RB) (d1 : XT) : T.stepF rf rb 46 d1 = r46 rf rb d1 := by kernel_rfl
theorem or46 {d1 : XT} {y : (List Int × Int)} (h : r46 T.rf T.rb d1 = some y) : c46 T.rf d1 = some y := T.rf_of (f := 46) (d := d1) ((er46 T.rf T.rb d1).trans h)

/- bailmentref15.turn -/
noncomputable def r57 (rf : T.RF) (rb : T.RB) (d1 : List Int) (d2 : Int) : Option Int :=
  bif decide (d2 < 0) then
    some d2
  else
  bif inb d2 d1.length then
    (nth d1 d2.toNat).bind fun (x1 : Int) =>
    some x1
  else
    none
theorem er57 (rf : T.RF) (rb : T.RB) (d1 : List Int) (d2 : Int) : T.stepF rf rb 57 (d1, d2) = r57 rf rb d1 d2 := by kernel_rfl
theorem or57 {d1 : List Int} {d2 : Int} {y : Int} (h : r57 T.rf T.rb d1 d2 = some y) : c57 T.rf d1 d2 = some y := T.rf_of (f := 57) (d := (d1, d2)) ((er57 T.rf T.rb d1 d2).trans h)

/- bailmentref15.Sort loop 0 -/
noncomputable def b84 (rf : T.RF) (rb : T.RB) (d1 : List Int) (d2 : List Int) (d3 : Int) : Option (List Int × List Int) :=
  bif decide (d3 < (((d1.length : Nat) : Int))) then
    bif inb d3 d1.length then
      (nth d1 d3.toNat).bind fun (x1 : Int) =>
      bif inb x1 d2.length then
        bif Nat.blt x1.toNat d2.length then
          k84 rb d1 (setNth d2 x1.toNat d3) (IntKind.i64.wrap (d3 + 1))
        else
          none
      else
        none
    else
      none
  else
    some (d1, d2)
theorem eb84 (rf : T.RF) (rb : T.RB) (d1 : List Int) (d2 : List Int) (d3 : Int) : T.stepB rf rb 84 (d1, d2, d3) = b84 rf rb d1 d2 d3 := by kernel_rfl
theorem ob84 {d1 : List Int} {d2 : List Int} {d3 : Int} {y : (List Int × List Int)} (h : b84 T.rf T.rb d1 d2 d3 = some y) : k84 T.rb d1 d2 d3 = some y := T.rb_of (κ := 84) (d := (d1, d2, d3)) ((eb84 T.rf T.rb d1 d2 d3).trans h)

/- bailmentref15.Sort loop 2 -/
noncomputable def b85 (rf : T.RF) (rb : T.RB) (d1 : XT) (d2 : List Int) (d3 : List XO) (d4 : List Int) (d5 : List Int) (d6 : List Int) (d7 : Int) : Option (XT × List Int × List Int × List Int × List XO) :=
  bif decide (d7 < (((d2.length : Nat) : Int))) then
    bif inb d7 d2.length then
      (nth d2 d7.toNat).bind fun (x1 : Int) =>
      bif inb x1 d1.1.length then
        (nth d1.1 x1.toNat).bind fun (x2 : XO) =>
        (c57 rf d6 x2.2.1).bind fun (y3 : Int) =>
        (c57 rf d6 x2.2.2.1).bind fun (y4 : Int) =>
        (c57 rf d6 x2.2.2.2.1).bind fun (y5 : Int) =>
        bif (Nat.ble (d3.length + 1) most) && true then
          k85 rb d1 d2 (d3 ++ [(x2.1, y3, y4, y5, x2.2.2.2.2)]) d4 d5 d6 (IntKind.i64.wrap (d7 + 1))
        else
          none
      else
        none
    else
      none
  else
    some (d1, d2, d4, d5, d3)
theorem eb85 (rf : T.RF) (rb : T.RB) (d1 : XT) (d2 : List Int) (d3 : List XO) (d4 : List Int) (d5 : List Int) (d6 : List Int) (d7 : Int) : T.stepB rf rb 85 (d1, d2, d3, d4, d5, d6, d7) = b85 rf rb d1 d2 d3 d4 d5 d6 d7 := by kernel_rfl
theorem ob85 {d1 : XT} {d2 : List Int} {d3 : List XO} {d4 : List Int} {d5 : List Int} {d6 : List Int} {d7 : Int} {y : (XT × List Int × List Int × List Int × List XO)} (h : b85 T.rf T.rb d1 d2 d3 d4 d5 d6 d7 = some y) : k85 T.rb d1 d2 d3 d4 d5 d6 d7 = some y := T.rb_of (κ := 85) (d := (d1, d2, d3, d4, d5, d6, d7)) ((eb85 T.rf T.rb d1 d2 d3 d4 d5 d6 d7).trans h)

/- bailmentref15.Sort loop 4 -/
noncomputable def b86q (rf : T.RF) (rb : T.RB) (d1 : XT) (d2 : List XO) (d3 : List Int) (d4 : List Int) (d5 : List Int) (d6 : Int) : Option (XT × XT) :=
  bif decide (d6 < (((d1.2.1.length : Nat) : Int))) then
    bif inb d6 d1.2.1.length then
      (nth d1.2.1 d6.toNat).bind fun (x1 : Int) =>
      bif inb x1 d5.length then
        (nth d5 x1.toNat).bind fun (x2 : Int) =>
        agN 1 (
          bif (Nat.ble (d3.length + 1) most) && true then
            k86 rb d1 d2 (d3 ++ [x2]) d4 d5 (IntKind.i64.wrap (d6 + 1))
          else
            none
        )
      else
        none
    else
      none
  else
    some (d1, d2, d4, d3)
noncomputable def b86 (rf : T.RF) (rb : T.RB) (d1 : XT) (d2 : List XO) (d3 : List Int) (d4 : List Int) (d5 : List Int) (d6 : Int) : Option (XT × XT) :=
  bif decide (d6 < (((d1.2.1.length : Nat) : Int))) then
    bif inb d6 d1.2.1.length then
      (nth d1.2.1 d6.toNat).bind fun (x1 : Int) =>
      bif inb x1 d5.length then
        (nth d5 x1.toNat).bind fun (x2 : Int) =>
        bif (Nat.ble (d3.length + 1) most) && true then
          k86 rb d1 d2 (d3 ++ [x2]) d4 d5 (IntKind.i64.wrap (d6 + 1))
        else
          none
      else
        none
    else
      none
  else
    some (d1, d2, d4, d3)
theorem eb86 (rf : T.RF) (rb : T.RB) (d1 : XT) (d2 : List XO) (d3 : List Int) (d4 : List Int) (d5 : List Int) (d6 : Int) : T.stepB rf rb 86 (d1, d2, d3, d4, d5, d6) = b86q rf rb d1 d2 d3 d4 d5 d6 := by kernel_rfl
theorem sb86 (rf : T.RF) (rb : T.RB) (d1 : XT) (d2 : List XO) (d3 : List Int) (d4 : List Int) (d5 : List Int) (d6 : Int) : b86q rf rb d1 d2 d3 d4 d5 d6 = b86 rf rb d1 d2 d3 d4 d5 d6 := by
  unfold b86q b86; simp only [agN_eq, agree_self, agree_swap]
theorem ob86 {d1 : XT} {d2 : List XO} {d3 : List Int} {d4 : List Int} {d5 : List Int} {d6 : Int} {y : (XT × XT)} (h : b86 T.rf T.rb d1 d2 d3 d4 d5 d6 = some y) : k86 T.rb d1 d2 d3 d4 d5 d6 = some y := T.rb_of (κ := 86) (d := (d1, d2, d3, d4, d5, d6)) (((eb86 T.rf T.rb d1 d2 d3 d4 d5 d6).trans (sb86 T.rf T.rb d1 d2 d3 d4 d5 d6)).trans h)

/- bailmentref15.Sort -/
noncomputable def r56 (rf : T.RF) (rb : T.RB) (d1 : XT) : Option (XT × Int) :=
  (c46 rf d1).bind fun (y1 : List Int × Int) =>
  bif y1.2 != 0 then
    some (([], [], []), y1.2)
  else
  bif inb' (((y1.1.length : Nat) : Int)) most then
    bif inb' (((y1.1.length : Nat) : Int)) y1.1.length then
      (k84 rb y1.1 (List.replicate y1.1.length (0 : Int)) 0).bind fun (z2 : List Int × List Int) =>
      bif Nat.ble d1.2.2.length most then
        (k85 rb d1 z2.1 [] [] d1.2.2 z2.2 0).bind fun (z3 : XT × List Int × List Int × List Int × List XO) =>
        (k86 rb z3.1 z3.2.2.2.2 z3.2.2.1 z3.2.2.2.1 z2.2 0).bind fun (z4 : XT × XT) =>
        some ((z4.2.1, z4.2.2.2, z4.2.2.1), 0)
      else
        none
    else
      none
  else
    none
theorem er56 (rf : T.RF) (rb : T.RB) (d1 : XT) : T.stepF rf rb 56 d1 = r56 rf rb d1 := by kernel_rfl
theorem or56 {d1 : XT} {y : (XT × Int)} (h : r56 T.rf T.rb d1 = some y) : c56 T.rf d1 = some y := T.rf_of (f := 56) (d := d1) ((er56 T.rf T.rb d1).trans h)

/- bailmentlaw14.Told loop 0 -/
noncomputable def b88 (rf : T.RF) (rb : T.RB) (d1 : XT) (d2 : List Int) (d3 : List Int) (d4 : List XO) (d5 : Int) : Option (XT × List Int × List Int × List XO) :=
  bif decide (d5 < (((d1.1.length : Nat) : Int))) then
    bif inb d5 d1.1.length then
      (nth d1.1 d5.toNat).bind fun (x1 : XO) =>
      bif (Nat.ble (d4.length + 1) most) && true then
        k88 rb d1 d2 d3 (d4 ++ [x1]) (IntKind.i64.wrap (d5 + 1))
      else
        none
    else
      none
  else
    some (d1, d2, d3, d4)
theorem eb88 (rf : T.RF) (rb : T.RB) (d1 : XT) (d2 : List Int) (d3 : List Int) (d4 : List XO) (d5 : Int) : T.stepB rf rb 88 (d1, d2, d3, d4, d5) = b88 rf rb d1 d2 d3 d4 d5 := by kernel_rfl
theorem ob88 {d1 : XT} {d2 : List Int} {d3 : List Int} {d4 : List XO} {d5 : Int} {y : (XT × List Int × List Int × List XO)} (h : b88 T.rf T.rb d1 d2 d3 d4 d5 = some y) : k88 T.rb d1 d2 d3 d4 d5 = some y := T.rb_of (κ := 88) (d := (d1, d2, d3, d4, d5)) ((eb88 T.rf T.rb d1 d2 d3 d4 d5).trans h)

/- bailmentlaw14.Told -/
noncomputable def r58 (rf : T.RF) (rb : T.RB) (d1 : XT) : Option XT :=
  (k88 rb d1 d1.2.1 d1.2.2 [] 0).bind fun (z1 : XT × List Int × List Int × List XO) =>
  some (z1.2.2.2, z1.2.1, z1.2.2.1)
theorem er58 (rf : T.RF) (rb : T.RB) (d1 : XT) : T.stepF rf rb 58 d1 = r58 rf rb d1 := by kernel_rfl
theorem or58 {d1 : XT} {y : XT} (h : r58 T.rf T.rb d1 = some y) : c58 T.rf d1 = some y := T.rf_of (f := 58) (d := d1) ((er58 T.rf T.rb d1).trans h)

/- bailmentref14.Same loop 0 -/
noncomputable def b89 (rf : T.RF) (rb : T.RB) (d1 : XT) (d2 : XT) (d3 : Int) : Option ((XT × XT × Bool) ⊕ (XT × XT)) :=
  bif decide (d3 < (((d1.1.length : Nat) : Int))) then
    bif inb d3 d1.1.length then
      (nth d1.1 d3.toNat).bind fun (x1 : XO) =>
      bif inb d3 d2.1.length then
        (nth d2.1 d3.toNat).bind fun (x2 : XO) =>
        bif !((x1.1 == x2.1) && ((x1.2.1 == x2.2.1) && ((x1.2.2.1 == x2.2.2.1) && ((x1.2.2.2.1 == x2.2.2.2.1) && (x1.2.2.2.2 == x2.2.2.2.2))))) then
          some (.inl (d1, d2, false))
        else
          k89 rb d1 d2 (IntKind.i64.wrap (d3 + 1))
      else
        none
    else
      none
  else
    some (.inr (d1, d2))
theorem eb89 (rf : T.RF) (rb : T.RB) (d1 : XT) (d2 : XT) (d3 : Int) : T.stepB rf rb 89 (d1, d2, d3) = b89 rf rb d1 d2 d3 := by kernel_rfl
theorem ob89 {d1 : XT} {d2 : XT} {d3 : Int} {y : ((XT × XT × Bool) ⊕ (XT × XT))} (h : b89 T.rf T.rb d1 d2 d3 = some y) : k89 T.rb d1 d2 d3 = some y := T.rb_of (κ := 89) (d := (d1, d2, d3)) ((eb89 T.rf T.rb d1 d2 d3).trans h)

/- bailmentref14.Same -/
noncomputable def r59 (rf : T.RF) (rb : T.RB) (d1 : XT) (d2 : XT) : Option Bool :=
  bif (((d1.1.length : Nat) : Int)) != (((d2.1.length : Nat) : Int)) then
    some false
  else
    (c37 rf d1.2.1 d2.2.1).bind fun (y1 : Bool) =>
    bif !y1 then
      some false
    else
      (c37 rf d1.2.2 d2.2.2).bind fun (y2 : Bool) =>
      bif !y2 then
        some false
      else
        (k89 rb d1 d2 0).bind fun (z3 : (XT × XT × Bool) ⊕ (XT × XT)) =>
        match z3 with
        | .inl u4 =>
          some u4.2.2
        | .inr w5 =>
          some true
theorem er59 (rf : T.RF) (rb : T.RB) (d1 : XT) (d2 : XT) : T.stepF rf rb 59 (d1, d2) = r59 rf rb d1 d2 := by kernel_rfl
theorem or59 {d1 : XT} {d2 : XT} {y : Bool} (h : r59 T.rf T.rb d1 d2 = some y) : c59 T.rf d1 d2 = some y := T.rf_of (f := 59) (d := (d1, d2)) ((er59 T.rf T.rb d1 d2).trans h)

/- bailmentref15.Is loop 0 -/
noncomputable def b90 (rf : T.RF) (rb : T.RB) (d1 : XT) (d2 : Int) : Option ((XT × Bool) ⊕ XT) :=
  bif decide (d2 < (((d1.1.length : Nat) : Int))) then
    bif inb d2 d1.1.length then
      (nth d1.1 d2.toNat).bind fun (x1 : XO) =>
      (c55 rf x1).bind fun (y2 : List Int) =>
      (k91 rb y2 d2 0).bind fun (z3 : (List Int × Bool) ⊕ (List Int)) =>
      match z3 with
      | .inl u4 =>
        some (.inl (d1, u4.2))
      | .inr w5 =>
        k90 rb d1 (IntKind.i64.wrap (d2 + 1))
    else
      none
  else
    some (.inr d1)
theorem eb90 (rf : T.RF) (rb : T.RB) (d1 : XT) (d2 : Int) : T.stepB rf rb 90 (d1, d2) = b90 rf rb d1 d2 := by kernel_rfl
theorem ob90 {d1 : XT} {d2 : Int} {y : ((XT × Bool) ⊕ XT)} (h : b90 T.rf T.rb d1 d2 = some y) : k90 T.rb d1 d2 = some y := T.rb_of (κ := 90) (d := (d1, d2)) ((eb90 T.rf T.rb d1 d2).trans h)

/- bailmentref15.Is loop 2 -/
noncomputable def b91 (rf : T.RF) (rb : T.RB) (d1 : List Int) (d2 : Int) (d3 : Int) : Option ((List Int × Bool) ⊕ (List Int)) :=
  bif decide (d3 < (((d1.length : Nat) : Int))) then
    bif inb d3 d1.length then
      (nth d1 d3.toNat).bind fun (x1 : Int) =>
      bif decide (x1 ≥ d2) then
        some (.inl (d1, false))
      else
        k91 rb d1 d2 (IntKind.i64.wrap (d3 + 1))
    else
      none
  else
    some (.inr d1)
theorem eb91 (rf : T.RF) (rb : T.RB) (d1 : List Int) (d2 : Int) (d3 : Int) : T.stepB rf rb 91 (d1, d2, d3) = b91 rf rb d1 d2 d3 := by kernel_rfl
theorem ob91 {d1 : List Int} {d2 : Int} {d3 : Int} {y : ((List Int × Bool) ⊕ (List Int))} (h : b91 T.rf T.rb d1 d2 d3 = some y) : k91 T.rb d1 d2 d3 = some y := T.rb_of (κ := 91) (d := (d1, d2, d3)) ((eb91 T.rf T.rb d1 d2 d3).trans h)

/- bailmentref15.Is -/
noncomputable def r60 (rf : T.RF) (rb : T.RB) (d1 : XT) : Option Bool :=
  (c47 rf d1).bind fun (y1 : Int) =>
  bif y1 != 0 then
    some false
  else
    (k90 rb d1 0).bind fun (z2 : (XT × Bool) ⊕ XT) =>
    match z2 with
    | .inl u3 =>
      some u3.2
    | .inr w4 =>
      some true
theorem er60 (rf : T.RF) (rb : T.RB) (d1 : XT) : T.stepF rf rb 60 d1 = r60 rf rb d1 := by kernel_rfl
theorem or60 {d1 : XT} {y : Bool} (h : r60 T.rf T.rb d1 = some y) : c60 T.rf d1 = some y := T.rf_of (f := 60) (d := d1) ((er60 T.rf T.rb d1).trans h)

/- bailmentref15.Ends loop 0 -/
noncomputable def b93 (rf : T.RF) (rb : T.RB) (d1 : XT) (d2 : List Int) (d3 : Int) : Option (XT × List Int) :=
  bif decide (d3 < (((d1.1.length : Nat) : Int))) then
    bif (Nat.ble (d2.length + 1) most) && true then
      k93 rb d1 (d2 ++ [(-1)]) (IntKind.i64.wrap (d3 + 1))
    else
      none
  else
    some (d1, d2)
theorem eb93 (rf : T.RF) (rb : T.RB) (d1 : XT) (d2 : List Int) (d3 : Int) : T.stepB rf rb 93 (d1, d2, d3) = b93 rf rb d1 d2 d3 := by kernel_rfl
theorem ob93 {d1 : XT} {d2 : List Int} {d3 : Int} {y : (XT × List Int)} (h : b93 T.rf T.rb d1 d2 d3 = some y) : k93 T.rb d1 d2 d3 = some y := T.rb_of (κ := 93) (d := (d1, d2, d3)) ((eb93 T.rf T.rb d1 d2 d3).trans h)

/- bailmentref15.Ends loop 2 -/
noncomputable def b94 (rf : T.RF) (rb : T.RB) (d1 : XT) (d2 : List Int) (d3 : Int) : Option (XT × List Int) :=
  bif decide (d3 < (((d1.1.length : Nat) : Int))) then
    bif inb d3 d1.1.length then
      (nth d1.1 d3.toNat).bind fun (x1 : XO) =>
      (c55 rf x1).bind fun (y2 : List Int) =>
      (k95 rb d2 y2 d3 0).bind fun (z3 : List Int × List Int) =>
      k94 rb d1 z3.1 (IntKind.i64.wrap (d3 + 1))
    else
      none
  else
    some (d1, d2)
theorem eb94 (rf : T.RF) (rb : T.RB) (d1 : XT) (d2 : List Int) (d3 : Int) : T.stepB rf rb 94 (d1, d2, d3) = b94 rf rb d1 d2 d3 := by kernel_rfl
theorem ob94 {d1 : XT} {d2 : List Int} {d3 : Int} {y : (XT × List Int)} (h : b94 T.rf T.rb d1 d2 d3 = some y) : k94 T.rb d1 d2 d3 = some y := T.rb_of (κ := 94) (d := (d1, d2, d3)) ((eb94 T.rf T.rb d1 d2 d3).trans h)

/- bailmentref15.Ends loop 4 -/
noncomputable def b95 (rf : T.RF) (rb : T.RB) (d1 : List Int) (d2 : List Int) (d3 : Int) (d4 : Int) : Option (List Int × List Int) :=
  bif decide (d4 < (((d2.length : Nat) : Int))) then
    bif inb d4 d2.length then
      (nth d2 d4.toNat).bind fun (x1 : Int) =>
      bif inb x1 d1.length then
        bif Nat.blt x1.toNat d1.length then
          k95 rb (setNth d1 x1.toNat d3) d2 d3 (IntKind.i64.wrap (d4 + 1))
        else
          none
      else
        none
    else
      none
  else
    some (d1, d2)
theorem eb95 (rf : T.RF) (rb : T.RB) (d1 : List Int) (d2 : List Int) (d3 : Int) (d4 : Int) : T.stepB rf rb 95 (d1, d2, d3, d4) = b95 rf rb d1 d2 d3 d4 := by kernel_rfl
theorem ob95 {d1 : List Int} {d2 : List Int} {d3 : Int} {d4 : Int} {y : (List Int × List Int)} (h : b95 T.rf T.rb d1 d2 d3 d4 = some y) : k95 T.rb d1 d2 d3 d4 = some y := T.rb_of (κ := 95) (d := (d1, d2, d3, d4)) ((eb95 T.rf T.rb d1 d2 d3 d4).trans h)

/- bailmentref15.Ends -/
noncomputable def r61 (rf : T.RF) (rb : T.RB) (d1 : XT) : Option (List Int) :=
  (c60 rf d1).bind fun (y1 : Bool) =>
  bif !y1 then
    some []
  else
    (k93 rb d1 [] 0).bind fun (z2 : XT × List Int) =>
    (k94 rb z2.1 z2.2 0).bind fun (z3 : XT × List Int) =>
    some z3.2
theorem er61 (rf : T.RF) (rb : T.RB) (d1 : XT) : T.stepF rf rb 61 d1 = r61 rf rb d1 := by kernel_rfl
theorem or61 {d1 : XT} {y : (List Int)} (h : r61 T.rf T.rb d1 = some y) : c61 T.rf d1 = some y := T.rf_of (f := 61) (d := d1) ((er61 T.rf T.rb d1).trans h)

/- bailmentlaw15.SchedSorts -/
noncomputable def r0 (rf : T.RF) (rb : T.RB) (d1 : XT) : Option Bool :=
  (c1 rf d1).bind fun (y1 : Bool) =>
  bif !y1 then
    (c2 rf).bind fun (y2 : Bool) =>
    some y2
  else
    (c3 rf d1).bind fun (y3 : XT) =>
    (c4 rf y3).bind fun (y4 : List Int × Int) =>
    (c46 rf d1).bind fun (y5 : List Int × Int) =>
    (c35 rf y3).bind fun (y6 : XT × Int) =>
    (c56 rf d1).bind fun (y7 : XT × Int) =>
    (c37 rf y4.1 y5.1).bind fun (y8 : Bool) =>
    bif y8 then
      bif y4.2 == y5.2 then
        (c58 rf y6.1).bind fun (y9 : XT) =>
        (c59 rf y9 y7.1).bind fun (y10 : Bool) =>
        bif y10 then
          bif y6.2 == y7.2 then
            (c38 rf y3).bind fun (y11 : Bool) =>
            (c60 rf d1).bind fun (y12 : Bool) =>
            bif y11 == y12 then
              (c42 rf y3).bind fun (y13 : List Int) =>
              (c61 rf d1).bind fun (y14 : List Int) =>
              (c37 rf y13 y14).bind fun (y15 : Bool) =>
              bif y15 then
                (c2 rf).bind fun (y16 : Bool) =>
                some y16
              else
                some false
            else
              some false
          else
            some false
        else
          some false
      else
        some false
    else
      some false
theorem er0 (rf : T.RF) (rb : T.RB) (d1 : XT) : T.stepF rf rb 0 d1 = r0 rf rb d1 := by kernel_rfl
theorem or0 {d1 : XT} {y : Bool} (h : r0 T.rf T.rb d1 = some y) : c0 T.rf d1 = some y := T.rf_of (f := 0) (d := d1) ((er0 T.rf T.rb d1).trans h)

/- bailmentref12.Small loop 0 -/
noncomputable def b96 (rf : T.RF) (rb : T.RB) (d1 : List (List UInt8 × Int × List (Int × Int × Int × Int × Int × List UInt8))) (d2 : Int) : Option (Bool ⊕ Unit) :=
  bif decide (d2 < (((d1.length : Nat) : Int))) then
    bif inb d2 d1.length then
      (nth d1 d2.toNat).bind fun (x1 : List UInt8 × Int × List (Int × Int × Int × Int × Int × List UInt8)) =>
      bif decide ((((x1.2.2.length : Nat) : Int)) > 100) then
        some (.inl false)
      else
      bif inb d2 d1.length then
        (nth d1 d2.toNat).bind fun (x2 : List UInt8 × Int × List (Int × Int × Int × Int × Int × List UInt8)) =>
        bif decide ((((x2.1.length : Nat) : Int)) > 100) then
          some (.inl false)
        else
          k96 rb d1 (IntKind.i64.wrap (d2 + 1))
      else
        none
    else
      none
  else
    some (.inr ())
theorem eb96 (rf : T.RF) (rb : T.RB) (d1 : List (List UInt8 × Int × List (Int × Int × Int × Int × Int × List UInt8))) (d2 : Int) : T.stepB rf rb 96 (d1, d2) = b96 rf rb d1 d2 := by kernel_rfl
theorem ob96 {d1 : List (List UInt8 × Int × List (Int × Int × Int × Int × Int × List UInt8))} {d2 : Int} {y : (Bool ⊕ Unit)} (h : b96 T.rf T.rb d1 d2 = some y) : k96 T.rb d1 d2 = some y := T.rb_of (κ := 96) (d := (d1, d2)) ((eb96 T.rf T.rb d1 d2).trans h)

/- bailmentref12.Small loop 2 -/
noncomputable def b97 (rf : T.RF) (rb : T.RB) (d1 : List (List Int)) (d2 : Int) : Option (Bool ⊕ Unit) :=
  bif decide (d2 < (((d1.length : Nat) : Int))) then
    bif inb d2 d1.length then
      (nth d1 d2.toNat).bind fun (x1 : List Int) =>
      bif decide ((((x1.length : Nat) : Int)) > 60) then
        some (.inl false)
      else
        k97 rb d1 (IntKind.i64.wrap (d2 + 1))
    else
      none
  else
    some (.inr ())
theorem eb97 (rf : T.RF) (rb : T.RB) (d1 : List (List Int)) (d2 : Int) : T.stepB rf rb 97 (d1, d2) = b97 rf rb d1 d2 := by kernel_rfl
theorem ob97 {d1 : List (List Int)} {d2 : Int} {y : (Bool ⊕ Unit)} (h : b97 T.rf T.rb d1 d2 = some y) : k97 T.rb d1 d2 = some y := T.rb_of (κ := 97) (d := (d1, d2)) ((eb97 T.rf T.rb d1 d2).trans h)

/- bailmentref12.Small -/
noncomputable def r63 (rf : T.RF) (rb : T.RB) (d1 : List (List UInt8 × Int × List (Int × Int × Int × Int × Int × List UInt8))) (d2 : List (List Int)) : Option Bool :=
  bif decide ((((d1.length : Nat) : Int)) > 60) then
    some false
  else
  bif decide ((((d2.length : Nat) : Int)) > 20) then
    some false
  else
    (k96 rb d1 0).bind fun (z1 : Bool ⊕ Unit) =>
    match z1 with
    | .inl u2 =>
      some u2
    | .inr w3 =>
      (k97 rb d2 0).bind fun (z4 : Bool ⊕ Unit) =>
      match z4 with
      | .inl u5 =>
        some u5
      | .inr w6 =>
        some true
theorem er63 (rf : T.RF) (rb : T.RB) (d1 : List (List UInt8 × Int × List (Int × Int × Int × Int × Int × List UInt8))) (d2 : List (List Int)) : T.stepF rf rb 63 (d1, d2) = r63 rf rb d1 d2 := by kernel_rfl
theorem or63 {d1 : List (List UInt8 × Int × List (Int × Int × Int × Int × Int × List UInt8))} {d2 : List (List Int)} {y : Bool} (h : r63 T.rf T.rb d1 d2 = some y) : c63 T.rf d1 d2 = some y := T.rf_of (f := 63) (d := (d1, d2)) ((er63 T.rf T.rb d1 d2).trans h)

/- bailmentref14.frame loop 0 -/
noncomputable def b99 (rf : T.RF) (rb : T.RB) (d1 : XT) (d2 : List Int) (d3 : Int) : Option ((XT × Bool) ⊕ XT) :=
  bif decide (d3 < (((d2.length : Nat) : Int))) then
    bif inb d3 d2.length then
      (nth d2 d3.toNat).bind fun (x1 : Int) =>
      (c52 rf x1).bind fun (y2 : Bool) =>
      bif !y2 then
        some (.inl (d1, false))
      else
      bif inb d3 d1.2.2.length then
        (nth d1.2.2 d3.toNat).bind fun (x3 : Int) =>
        bif x3 == 1 then
          bif inb d3 d2.length then
            (nth d2 d3.toNat).bind fun (x4 : Int) =>
            bif x4 != 0 then
              bif inb d3 d2.length then
                (nth d2 d3.toNat).bind fun (x5 : Int) =>
                bif x5 != 1 then
                  some (.inl (d1, false))
                else
                  k99 rb d1 d2 (IntKind.i64.wrap (d3 + 1))
              else
                none
            else
              k99 rb d1 d2 (IntKind.i64.wrap (d3 + 1))
          else
            none
        else
          k99 rb d1 d2 (IntKind.i64.wrap (d3 + 1))
      else
        none
    else
      none
  else
    some (.inr d1)
theorem eb99 (rf : T.RF) (rb : T.RB) (d1 : XT) (d2 : List Int) (d3 : Int) : T.stepB rf rb 99 (d1, d2, d3) = b99 rf rb d1 d2 d3 := by kernel_rfl
theorem ob99 {d1 : XT} {d2 : List Int} {d3 : Int} {y : ((XT × Bool) ⊕ XT)} (h : b99 T.rf T.rb d1 d2 d3 = some y) : k99 T.rb d1 d2 d3 = some y := T.rb_of (κ := 99) (d := (d1, d2, d3)) ((eb99 T.rf T.rb d1 d2 d3).trans h)

/- bailmentref14.frame -/
noncomputable def r65 (rf : T.RF) (rb : T.RB) (d1 : XT) (d2 : List Int) : Option Bool :=
  bif (((d2.length : Nat) : Int)) != (((d1.2.2.length : Nat) : Int)) then
    some false
  else
    (k99 rb d1 d2 0).bind fun (z1 : (XT × Bool) ⊕ XT) =>
    match z1 with
    | .inl u2 =>
      some u2.2
    | .inr w3 =>
      some true
theorem er65 (rf : T.RF) (rb : T.RB) (d1 : XT) (d2 : List Int) : T.stepF rf rb 65 (d1, d2) = r65 rf rb d1 d2 := by kernel_rfl
theorem or65 {d1 : XT} {d2 : List Int} {y : Bool} (h : r65 T.rf T.rb d1 d2 = some y) : c65 T.rf d1 d2 = some y := T.rf_of (f := 65) (d := (d1, d2)) ((er65 T.rf T.rb d1 d2).trans h)

/- bailmentref01.truth -/
noncomputable def r68 (rf : T.RF) (rb : T.RB) (d1 : Bool) : Option Int :=
  bif d1 then
    some 1
  else
    some 0
theorem er68 (rf : T.RF) (rb : T.RB) (d1 : Bool) : T.stepF rf rb 68 d1 = r68 rf rb d1 := by kernel_rfl
theorem or68 {d1 : Bool} {y : Int} (h : r68 T.rf T.rb d1 = some y) : c68 T.rf d1 = some y := T.rf_of (f := 68) (d := d1) ((er68 T.rf T.rb d1).trans h)

/- bailmentref01.over -/
noncomputable def r69 (rf : T.RF) (rb : T.RB) (d1 : Int) : Option (Int × Int) :=
  (c52 rf d1).bind fun (y1 : Bool) =>
  bif !y1 then
    some (0, 2)
  else
    some (d1, 0)
theorem er69 (rf : T.RF) (rb : T.RB) (d1 : Int) : T.stepF rf rb 69 d1 = r69 rf rb d1 := by kernel_rfl
theorem or69 {d1 : Int} {y : (Int × Int)} (h : r69 T.rf T.rb d1 = some y) : c69 T.rf d1 = some y := T.rf_of (f := 69) (d := d1) ((er69 T.rf T.rb d1).trans h)

/- bailmentref01.size -/
noncomputable def r71 (rf : T.RF) (rb : T.RB) (d1 : Int) : Option Int :=
  bif decide (d1 < 0) then
    some (IntKind.i64.wrap (0 - d1))
  else
    some d1
theorem er71 (rf : T.RF) (rb : T.RB) (d1 : Int) : T.stepF rf rb 71 d1 = r71 rf rb d1 := by kernel_rfl
theorem or71 {d1 : Int} {y : Int} (h : r71 T.rf T.rb d1 = some y) : c71 T.rf d1 = some y := T.rf_of (f := 71) (d := d1) ((er71 T.rf T.rb d1).trans h)

/- bailmentref01.parts -/
noncomputable def r70 (rf : T.RF) (rb : T.RB) (d1 : Int) (d2 : Int) : Option (Int × Int) :=
  (c71 rf d1).bind fun (y1 : Int) =>
  (c71 rf d2).bind fun (y2 : Int) =>
  bif y2 == 0 then
    none
  else
    (c71 rf d1).bind fun (y3 : Int) =>
    (c71 rf d2).bind fun (y4 : Int) =>
    bif y4 == 0 then
      none
    else
      some (IntKind.i64.wrap (Int.tdiv y1 y2), Int.tmod y3 y4)
theorem er70 (rf : T.RF) (rb : T.RB) (d1 : Int) (d2 : Int) : T.stepF rf rb 70 (d1, d2) = r70 rf rb d1 d2 := by kernel_rfl
theorem or70 {d1 : Int} {d2 : Int} {y : (Int × Int)} (h : r70 T.rf T.rb d1 d2 = some y) : c70 T.rf d1 d2 = some y := T.rf_of (f := 70) (d := (d1, d2)) ((er70 T.rf T.rb d1 d2).trans h)

/- bailmentref01.Do -/
noncomputable def r67 (rf : T.RF) (rb : T.RB) (d1 : Int) (d2 : Int) (d3 : Int) (d4 : Int) : Option (Int × Int) :=
  (c50 rf d1).bind fun (y1 : Int) =>
  bif decide (y1 < 0) then
    some (0, 1)
  else
    (c52 rf d2).bind fun (y2 : Bool) =>
    bif !y2 then
      some (0, 1)
    else
    bif decide (y1 > 1) then
      (c52 rf d3).bind fun (y3 : Bool) =>
      bif !y3 then
        some (0, 1)
      else
      bif decide (y1 > 2) then
        (c52 rf d4).bind fun (y4 : Bool) =>
        bif !y4 then
          some (0, 1)
        else
        bif d1 == 4 then
          (c68 rf (d2 == 0)).bind fun (y5 : Int) =>
          some (y5, 0)
        else
        bif d1 == 6 then
          bif d2 != 0 then
            (c68 rf (d3 != 0)).bind fun (y6 : Int) =>
            some (y6, 0)
          else
            (c68 rf false).bind fun (y7 : Int) =>
            some (y7, 0)
        else
        bif d1 == 7 then
          bif d2 != 0 then
            (c68 rf true).bind fun (y8 : Int) =>
            some (y8, 0)
          else
            (c68 rf (d3 != 0)).bind fun (y9 : Int) =>
            some (y9, 0)
        else
        bif d1 == 8 then
          (c68 rf (!((d2 != 0) == (d3 != 0)))).bind fun (y10 : Int) =>
          some (y10, 0)
        else
        bif d1 == 9 then
          bif d2 == 0 then
            (c68 rf true).bind fun (y11 : Int) =>
            some (y11, 0)
          else
            (c68 rf (d3 != 0)).bind fun (y12 : Int) =>
            some (y12, 0)
        else
        bif d1 == 10 then
          (c68 rf (d2 == d3)).bind fun (y13 : Int) =>
          some (y13, 0)
        else
        bif d1 == 11 then
          (c68 rf (d2 != d3)).bind fun (y14 : Int) =>
          some (y14, 0)
        else
        bif d1 == 12 then
          (c68 rf (decide (d2 < d3))).bind fun (y15 : Int) =>
          some (y15, 0)
        else
        bif d1 == 13 then
          (c68 rf (decide (d2 ≤ d3))).bind fun (y16 : Int) =>
          some (y16, 0)
        else
        bif d1 == 5 then
          (c69 rf (IntKind.i64.wrap (0 - d2))).bind fun (y17 : Int × Int) =>
          some y17
        else
        bif d1 == 14 then
          (c69 rf (IntKind.i64.wrap (d2 + d3))).bind fun (y18 : Int × Int) =>
          some y18
        else
        bif d1 == 15 then
          (c69 rf (IntKind.i64.wrap (d2 - d3))).bind fun (y19 : Int × Int) =>
          some y19
        else
        bif d1 == 16 then
          (c69 rf (IntKind.i64.wrap (d2 * d3))).bind fun (y20 : Int × Int) =>
          some y20
        else
        bif d1 == 26 then
          bif d2 != 0 then
            some (d3, 0)
          else
            some (d4, 0)
        else
        bif d3 == 0 then
          some (0, 3)
        else
          (c70 rf d2 d3).bind fun (y21 : Int × Int) =>
          bif d1 == 18 then
            bif decide (d2 < 0) then
              some (IntKind.i64.wrap (0 - y21.2), 0)
            else
              some (y21.2, 0)
          else
          bif !((decide (d2 < 0)) == (decide (d3 < 0))) then
            (c69 rf (IntKind.i64.wrap (0 - y21.1))).bind fun (y22 : Int × Int) =>
            some y22
          else
            (c69 rf y21.1).bind fun (y23 : Int × Int) =>
            some y23
      else
      bif d1 == 4 then
        (c68 rf (d2 == 0)).bind fun (y24 : Int) =>
        some (y24, 0)
      else
      bif d1 == 6 then
        bif d2 != 0 then
          (c68 rf (d3 != 0)).bind fun (y25 : Int) =>
          some (y25, 0)
        else
          (c68 rf false).bind fun (y26 : Int) =>
          some (y26, 0)
      else
      bif d1 == 7 then
        bif d2 != 0 then
          (c68 rf true).bind fun (y27 : Int) =>
          some (y27, 0)
        else
          (c68 rf (d3 != 0)).bind fun (y28 : Int) =>
          some (y28, 0)
      else
      bif d1 == 8 then
        (c68 rf (!((d2 != 0) == (d3 != 0)))).bind fun (y29 : Int) =>
        some (y29, 0)
      else
      bif d1 == 9 then
        bif d2 == 0 then
          (c68 rf true).bind fun (y30 : Int) =>
          some (y30, 0)
        else
          (c68 rf (d3 != 0)).bind fun (y31 : Int) =>
          some (y31, 0)
      else
      bif d1 == 10 then
        (c68 rf (d2 == d3)).bind fun (y32 : Int) =>
        some (y32, 0)
      else
      bif d1 == 11 then
        (c68 rf (d2 != d3)).bind fun (y33 : Int) =>
        some (y33, 0)
      else
      bif d1 == 12 then
        (c68 rf (decide (d2 < d3))).bind fun (y34 : Int) =>
        some (y34, 0)
      else
      bif d1 == 13 then
        (c68 rf (decide (d2 ≤ d3))).bind fun (y35 : Int) =>
        some (y35, 0)
      else
      bif d1 == 5 then
        (c69 rf (IntKind.i64.wrap (0 - d2))).bind fun (y36 : Int × Int) =>
        some y36
      else
      bif d1 == 14 then
        (c69 rf (IntKind.i64.wrap (d2 + d3))).bind fun (y37 : Int × Int) =>
        some y37
      else
      bif d1 == 15 then
        (c69 rf (IntKind.i64.wrap (d2 - d3))).bind fun (y38 : Int × Int) =>
        some y38
      else
      bif d1 == 16 then
        (c69 rf (IntKind.i64.wrap (d2 * d3))).bind fun (y39 : Int × Int) =>
        some y39
      else
      bif d1 == 26 then
        bif d2 != 0 then
          some (d3, 0)
        else
          some (d4, 0)
      else
      bif d3 == 0 then
        some (0, 3)
      else
        (c70 rf d2 d3).bind fun (y40 : Int × Int) =>
        bif d1 == 18 then
          bif decide (d2 < 0) then
            some (IntKind.i64.wrap (0 - y40.2), 0)
          else
            some (y40.2, 0)
        else
        bif !((decide (d2 < 0)) == (decide (d3 < 0))) then
          (c69 rf (IntKind.i64.wrap (0 - y40.1))).bind fun (y41 : Int × Int) =>
          some y41
        else
          (c69 rf y40.1).bind fun (y42 : Int × Int) =>
          some y42
    else
    bif decide (y1 > 2) then
      (c52 rf d4).bind fun (y43 : Bool) =>
      bif !y43 then
        some (0, 1)
      else
      bif d1 == 4 then
        (c68 rf (d2 == 0)).bind fun (y44 : Int) =>
        some (y44, 0)
      else
      bif d1 == 6 then
        bif d2 != 0 then
          (c68 rf (d3 != 0)).bind fun (y45 : Int) =>
          some (y45, 0)
        else
          (c68 rf false).bind fun (y46 : Int) =>
          some (y46, 0)
      else
      bif d1 == 7 then
        bif d2 != 0 then
          (c68 rf true).bind fun (y47 : Int) =>
          some (y47, 0)
        else
          (c68 rf (d3 != 0)).bind fun (y48 : Int) =>
          some (y48, 0)
      else
      bif d1 == 8 then
        (c68 rf (!((d2 != 0) == (d3 != 0)))).bind fun (y49 : Int) =>
        some (y49, 0)
      else
      bif d1 == 9 then
        bif d2 == 0 then
          (c68 rf true).bind fun (y50 : Int) =>
          some (y50, 0)
        else
          (c68 rf (d3 != 0)).bind fun (y51 : Int) =>
          some (y51, 0)
      else
      bif d1 == 10 then
        (c68 rf (d2 == d3)).bind fun (y52 : Int) =>
        some (y52, 0)
      else
      bif d1 == 11 then
        (c68 rf (d2 != d3)).bind fun (y53 : Int) =>
        some (y53, 0)
      else
      bif d1 == 12 then
        (c68 rf (decide (d2 < d3))).bind fun (y54 : Int) =>
        some (y54, 0)
      else
      bif d1 == 13 then
        (c68 rf (decide (d2 ≤ d3))).bind fun (y55 : Int) =>
        some (y55, 0)
      else
      bif d1 == 5 then
        (c69 rf (IntKind.i64.wrap (0 - d2))).bind fun (y56 : Int × Int) =>
        some y56
      else
      bif d1 == 14 then
        (c69 rf (IntKind.i64.wrap (d2 + d3))).bind fun (y57 : Int × Int) =>
        some y57
      else
      bif d1 == 15 then
        (c69 rf (IntKind.i64.wrap (d2 - d3))).bind fun (y58 : Int × Int) =>
        some y58
      else
      bif d1 == 16 then
        (c69 rf (IntKind.i64.wrap (d2 * d3))).bind fun (y59 : Int × Int) =>
        some y59
      else
      bif d1 == 26 then
        bif d2 != 0 then
          some (d3, 0)
        else
          some (d4, 0)
      else
      bif d3 == 0 then
        some (0, 3)
      else
        (c70 rf d2 d3).bind fun (y60 : Int × Int) =>
        bif d1 == 18 then
          bif decide (d2 < 0) then
            some (IntKind.i64.wrap (0 - y60.2), 0)
          else
            some (y60.2, 0)
        else
        bif !((decide (d2 < 0)) == (decide (d3 < 0))) then
          (c69 rf (IntKind.i64.wrap (0 - y60.1))).bind fun (y61 : Int × Int) =>
          some y61
        else
          (c69 rf y60.1).bind fun (y62 : Int × Int) =>
          some y62
    else
    bif d1 == 4 then
      (c68 rf (d2 == 0)).bind fun (y63 : Int) =>
      some (y63, 0)
    else
    bif d1 == 6 then
      bif d2 != 0 then
        (c68 rf (d3 != 0)).bind fun (y64 : Int) =>
        some (y64, 0)
      else
        (c68 rf false).bind fun (y65 : Int) =>
        some (y65, 0)
    else
    bif d1 == 7 then
      bif d2 != 0 then
        (c68 rf true).bind fun (y66 : Int) =>
        some (y66, 0)
      else
        (c68 rf (d3 != 0)).bind fun (y67 : Int) =>
        some (y67, 0)
    else
    bif d1 == 8 then
      (c68 rf (!((d2 != 0) == (d3 != 0)))).bind fun (y68 : Int) =>
      some (y68, 0)
    else
    bif d1 == 9 then
      bif d2 == 0 then
        (c68 rf true).bind fun (y69 : Int) =>
        some (y69, 0)
      else
        (c68 rf (d3 != 0)).bind fun (y70 : Int) =>
        some (y70, 0)
    else
    bif d1 == 10 then
      (c68 rf (d2 == d3)).bind fun (y71 : Int) =>
      some (y71, 0)
    else
    bif d1 == 11 then
      (c68 rf (d2 != d3)).bind fun (y72 : Int) =>
      some (y72, 0)
    else
    bif d1 == 12 then
      (c68 rf (decide (d2 < d3))).bind fun (y73 : Int) =>
      some (y73, 0)
    else
    bif d1 == 13 then
      (c68 rf (decide (d2 ≤ d3))).bind fun (y74 : Int) =>
      some (y74, 0)
    else
    bif d1 == 5 then
      (c69 rf (IntKind.i64.wrap (0 - d2))).bind fun (y75 : Int × Int) =>
      some y75
    else
    bif d1 == 14 then
      (c69 rf (IntKind.i64.wrap (d2 + d3))).bind fun (y76 : Int × Int) =>
      some y76
    else
    bif d1 == 15 then
      (c69 rf (IntKind.i64.wrap (d2 - d3))).bind fun (y77 : Int × Int) =>
      some y77
    else
    bif d1 == 16 then
      (c69 rf (IntKind.i64.wrap (d2 * d3))).bind fun (y78 : Int × Int) =>
      some y78
    else
    bif d1 == 26 then
      bif d2 != 0 then
        some (d3, 0)
      else
        some (d4, 0)
    else
    bif d3 == 0 then
      some (0, 3)
    else
      (c70 rf d2 d3).bind fun (y79 : Int × Int) =>
      bif d1 == 18 then
        bif decide (d2 < 0) then
          some (IntKind.i64.wrap (0 - y79.2), 0)
        else
          some (y79.2, 0)
      else
      bif !((decide (d2 < 0)) == (decide (d3 < 0))) then
        (c69 rf (IntKind.i64.wrap (0 - y79.1))).bind fun (y80 : Int × Int) =>
        some y80
      else
        (c69 rf y79.1).bind fun (y81 : Int × Int) =>
        some y81
theorem er67 (rf : T.RF) (rb : T.RB) (d1 : Int) (d2 : Int) (d3 : Int) (d4 : Int) : T.stepF rf rb 67 (d1, d2, d3, d4) = r67 rf rb d1 d2 d3 d4 := by kernel_rfl
theorem or67 {d1 : Int} {d2 : Int} {d3 : Int} {d4 : Int} {y : (Int × Int)} (h : r67 T.rf T.rb d1 d2 d3 d4 = some y) : c67 T.rf d1 d2 d3 d4 = some y := T.rf_of (f := 67) (d := (d1, d2, d3, d4)) ((er67 T.rf T.rb d1 d2 d3 d4).trans h)

/- bailmentref14.value tail 15 -/
noncomputable def b103 (rf : T.RF) (rb : T.RB) (d1 : List Int) (d2 : XO) : Option (List Int × XO × Int × Int) :=
  (c55 rf d2).bind fun (y1 : List Int) =>
  (k104 rb d1 y1 [0, 0, 0] 0).bind fun (z2 : List Int × List Int × List Int) =>
  bif inb 0 z2.2.2.length then
    (nth z2.2.2 0).bind fun (x3 : Int) =>
    bif inb 1 z2.2.2.length then
      (nth z2.2.2 1).bind fun (x4 : Int) =>
      bif inb 2 z2.2.2.length then
        (nth z2.2.2 2).bind fun (x5 : Int) =>
        (c67 rf d2.1 x3 x4 x5).bind fun (y6 : Int × Int) =>
        some (z2.1, d2, y6)
      else
        none
    else
      none
  else
    none
theorem eb103 (rf : T.RF) (rb : T.RB) (d1 : List Int) (d2 : XO) : T.stepB rf rb 103 (d1, d2) = b103 rf rb d1 d2 := by kernel_rfl
theorem ob103 {d1 : List Int} {d2 : XO} {y : (List Int × XO × Int × Int)} (h : b103 T.rf T.rb d1 d2 = some y) : k103 T.rb d1 d2 = some y := T.rb_of (κ := 103) (d := (d1, d2)) ((eb103 T.rf T.rb d1 d2).trans h)

/- bailmentref14.value loop 1 -/
noncomputable def b104 (rf : T.RF) (rb : T.RB) (d1 : List Int) (d2 : List Int) (d3 : List Int) (d4 : Int) : Option (List Int × List Int × List Int) :=
  bif decide (d4 < (((d2.length : Nat) : Int))) then
    bif inb d4 d2.length then
      (nth d2 d4.toNat).bind fun (x1 : Int) =>
      bif inb x1 d1.length then
        (nth d1 x1.toNat).bind fun (x2 : Int) =>
        bif inb d4 d3.length then
          bif Nat.blt d4.toNat d3.length then
            k104 rb d1 d2 (setNth d3 d4.toNat x2) (IntKind.i64.wrap (d4 + 1))
          else
            none
        else
          none
      else
        none
    else
      none
  else
    some (d1, d2, d3)
theorem eb104 (rf : T.RF) (rb : T.RB) (d1 : List Int) (d2 : List Int) (d3 : List Int) (d4 : Int) : T.stepB rf rb 104 (d1, d2, d3, d4) = b104 rf rb d1 d2 d3 d4 := by kernel_rfl
theorem ob104 {d1 : List Int} {d2 : List Int} {d3 : List Int} {d4 : Int} {y : (List Int × List Int × List Int)} (h : b104 T.rf T.rb d1 d2 d3 d4 = some y) : k104 T.rb d1 d2 d3 d4 = some y := T.rb_of (κ := 104) (d := (d1, d2, d3, d4)) ((eb104 T.rf T.rb d1 d2 d3 d4).trans h)

/- bailmentref14.value -/
noncomputable def r66 (rf : T.RF) (rb : T.RB) (d1 : List Int) (d2 : XO) (d3 : List Int) (d4 : List Int) : Option (List Int × Int × Int) :=
  bif d2.1 == 3 then
    bif inb d2.2.2.2.2 d3.length then
      (nth d3 d2.2.2.2.2.toNat).bind fun (x1 : Int) =>
      some (d1, x1, 0)
    else
      none
  else
  bif d2.1 == 1 then
    bif d2.1 == 1 then
      some (d1, d2.2.2.2.2, 0)
    else
    bif d2.1 == 19 then
      bif (((d4.length : Nat) : Int)) == 0 then
        bif inb d2.2.1 d1.length then
          (nth d1 d2.2.1.toNat).bind fun (x2 : Int) =>
          some (d1, x2, 0)
        else
          none
      else
      bif inb d2.2.2.1 d1.length then
        (nth d1 d2.2.2.1.toNat).bind fun (x3 : Int) =>
        some (d1, x3, 0)
      else
        none
    else
    bif d2.1 == 21 then
      bif (((d4.length : Nat) : Int)) == 0 then
        some (d1, 0, 0)
      else
      bif inb d2.2.1 d4.length then
        (nth d4 d2.2.1.toNat).bind fun (x4 : Int) =>
        some (d1, x4, 0)
      else
        none
    else
      (k103 rb d1 d2).bind fun (z5 : List Int × XO × Int × Int) =>
      some (z5.1, z5.2.2)
  else
  bif d2.1 == 2 then
    some (d1, d2.2.2.2.2, 0)
  else
  bif d2.1 == 19 then
    bif (((d4.length : Nat) : Int)) == 0 then
      bif inb d2.2.1 d1.length then
        (nth d1 d2.2.1.toNat).bind fun (x6 : Int) =>
        some (d1, x6, 0)
      else
        none
    else
    bif inb d2.2.2.1 d1.length then
      (nth d1 d2.2.2.1.toNat).bind fun (x7 : Int) =>
      some (d1, x7, 0)
    else
      none
  else
  bif d2.1 == 21 then
    bif (((d4.length : Nat) : Int)) == 0 then
      some (d1, 0, 0)
    else
    bif inb d2.2.1 d4.length then
      (nth d4 d2.2.1.toNat).bind fun (x8 : Int) =>
      some (d1, x8, 0)
    else
      none
  else
    (k103 rb d1 d2).bind fun (z9 : List Int × XO × Int × Int) =>
    some (z9.1, z9.2.2)
theorem er66 (rf : T.RF) (rb : T.RB) (d1 : List Int) (d2 : XO) (d3 : List Int) (d4 : List Int) : T.stepF rf rb 66 (d1, d2, d3, d4) = r66 rf rb d1 d2 d3 d4 := by kernel_rfl
theorem or66 {d1 : List Int} {d2 : XO} {d3 : List Int} {d4 : List Int} {y : (List Int × Int × Int)} (h : r66 T.rf T.rb d1 d2 d3 d4 = some y) : c66 T.rf d1 d2 d3 d4 = some y := T.rf_of (f := 66) (d := (d1, d2, d3, d4)) ((er66 T.rf T.rb d1 d2 d3 d4).trans h)

/- bailmentref14.Run loop 0 -/
noncomputable def b109 (rf : T.RF) (rb : T.RB) (d1 : XT) (d2 : List Int) (d3 : List (List Int)) (d4 : List (List Int)) (d5 : List Int) (d6 : Int) : Option ((XT × List Int × List (List Int) × Int) ⊕ (XT × List Int × List (List Int))) :=
  bif decide (d6 < (((d4.length : Nat) : Int))) then
    bif inb d6 d4.length then
      (nth d4 d6.toNat).bind fun (x1 : List Int) =>
      (c65 rf d1 x1).bind fun (y2 : Bool) =>
      bif !y2 then
        some (.inl (d1, d2, d3, 17))
      else
      bif inb' (((d1.1.length : Nat) : Int)) most then
        bif inb' (((d1.1.length : Nat) : Int)) d1.1.length then
          (k110 rb d1 d2 (List.replicate d1.1.length (0 : Int)) d4 d5 d6 0 0).bind fun (z3 : XT × List Int × List Int × Int) =>
          bif z3.2.2.2 != 0 then
            some (.inl (z3.1, z3.2.1, d3, z3.2.2.2))
          else
            (k111 rb z3.1 z3.2.2.1 [] 0).bind fun (z4 : XT × List Int × List Int) =>
            bif (Nat.ble (d3.length + 1) most) && true then
              k109 rb z4.1 z3.2.1 (d3 ++ [z4.2.2]) d4 z4.2.1 (IntKind.i64.wrap (d6 + 1))
            else
              none
        else
          none
      else
        none
    else
      none
  else
    some (.inr (d1, d2, d3))
theorem eb109 (rf : T.RF) (rb : T.RB) (d1 : XT) (d2 : List Int) (d3 : List (List Int)) (d4 : List (List Int)) (d5 : List Int) (d6 : Int) : T.stepB rf rb 109 (d1, d2, d3, d4, d5, d6) = b109 rf rb d1 d2 d3 d4 d5 d6 := by kernel_rfl
theorem ob109 {d1 : XT} {d2 : List Int} {d3 : List (List Int)} {d4 : List (List Int)} {d5 : List Int} {d6 : Int} {y : ((XT × List Int × List (List Int) × Int) ⊕ (XT × List Int × List (List Int)))} (h : b109 T.rf T.rb d1 d2 d3 d4 d5 d6 = some y) : k109 T.rb d1 d2 d3 d4 d5 d6 = some y := T.rb_of (κ := 109) (d := (d1, d2, d3, d4, d5, d6)) ((eb109 T.rf T.rb d1 d2 d3 d4 d5 d6).trans h)

/- bailmentref14.Run loop 2 -/
noncomputable def b110 (rf : T.RF) (rb : T.RB) (d1 : XT) (d2 : List Int) (d3 : List Int) (d4 : List (List Int)) (d5 : List Int) (d6 : Int) (d7 : Int) (d8 : Int) : Option (XT × List Int × List Int × Int) :=
  bif decide (d8 < (((d2.length : Nat) : Int))) then
    bif inb d8 d2.length then
      (nth d2 d8.toNat).bind fun (x1 : Int) =>
      bif inb x1 d1.1.length then
        (nth d1.1 x1.toNat).bind fun (x2 : XO) =>
        bif inb d6 d4.length then
          (nth d4 d6.toNat).bind fun (x3 : List Int) =>
          (c66 rf d3 x2 x3 d5).bind fun (y4 : List Int × Int × Int) =>
          bif inb d8 d2.length then
            (nth d2 d8.toNat).bind fun (x5 : Int) =>
            bif inb x5 y4.1.length then
              bif Nat.blt x5.toNat y4.1.length then
                bif y4.2.2 != 0 then
                  bif d7 == 0 then
                    k110 rb d1 d2 (setNth y4.1 x5.toNat y4.2.1) d4 d5 d6 y4.2.2 (IntKind.i64.wrap (d8 + 1))
                  else
                  bif decide (y4.2.2 < d7) then
                    k110 rb d1 d2 (setNth y4.1 x5.toNat y4.2.1) d4 d5 d6 y4.2.2 (IntKind.i64.wrap (d8 + 1))
                  else
                    k110 rb d1 d2 (setNth y4.1 x5.toNat y4.2.1) d4 d5 d6 d7 (IntKind.i64.wrap (d8 + 1))
                else
                  k110 rb d1 d2 (setNth y4.1 x5.toNat y4.2.1) d4 d5 d6 d7 (IntKind.i64.wrap (d8 + 1))
              else
                none
            else
              none
          else
            none
        else
          none
      else
        none
    else
      none
  else
    some (d1, d2, d3, d7)
theorem eb110 (rf : T.RF) (rb : T.RB) (d1 : XT) (d2 : List Int) (d3 : List Int) (d4 : List (List Int)) (d5 : List Int) (d6 : Int) (d7 : Int) (d8 : Int) : T.stepB rf rb 110 (d1, d2, d3, d4, d5, d6, d7, d8) = b110 rf rb d1 d2 d3 d4 d5 d6 d7 d8 := by kernel_rfl
theorem ob110 {d1 : XT} {d2 : List Int} {d3 : List Int} {d4 : List (List Int)} {d5 : List Int} {d6 : Int} {d7 : Int} {d8 : Int} {y : (XT × List Int × List Int × Int)} (h : b110 T.rf T.rb d1 d2 d3 d4 d5 d6 d7 d8 = some y) : k110 T.rb d1 d2 d3 d4 d5 d6 d7 d8 = some y := T.rb_of (κ := 110) (d := (d1, d2, d3, d4, d5, d6, d7, d8)) ((eb110 T.rf T.rb d1 d2 d3 d4 d5 d6 d7 d8).trans h)

/- bailmentref14.Run loop 4 -/
noncomputable def b111 (rf : T.RF) (rb : T.RB) (d1 : XT) (d2 : List Int) (d3 : List Int) (d4 : Int) : Option (XT × List Int × List Int) :=
  bif decide (d4 < (((d1.2.1.length : Nat) : Int))) then
    bif inb d4 d1.2.1.length then
      (nth d1.2.1 d4.toNat).bind fun (x1 : Int) =>
      bif inb x1 d2.length then
        (nth d2 x1.toNat).bind fun (x2 : Int) =>
        bif (Nat.ble (d3.length + 1) most) && true then
          k111 rb d1 d2 (d3 ++ [x2]) (IntKind.i64.wrap (d4 + 1))
        else
          none
      else
        none
    else
      none
  else
    some (d1, d2, d3)
theorem eb111 (rf : T.RF) (rb : T.RB) (d1 : XT) (d2 : List Int) (d3 : List Int) (d4 : Int) : T.stepB rf rb 111 (d1, d2, d3, d4) = b111 rf rb d1 d2 d3 d4 := by kernel_rfl
theorem ob111 {d1 : XT} {d2 : List Int} {d3 : List Int} {d4 : Int} {y : (XT × List Int × List Int)} (h : b111 T.rf T.rb d1 d2 d3 d4 = some y) : k111 T.rb d1 d2 d3 d4 = some y := T.rb_of (κ := 111) (d := (d1, d2, d3, d4)) ((eb111 T.rf T.rb d1 d2 d3 d4).trans h)

/- bailmentref14.Run -/
noncomputable def r64 (rf : T.RF) (rb : T.RB) (d1 : XT) (d2 : List (List Int)) : Option (List (List Int) × Int) :=
  (c47 rf d1).bind fun (y1 : Int) =>
  bif y1 != 0 then
    some ([], y1)
  else
    (c54 rf d1).bind fun (y2 : List Int) =>
    (k109 rb d1 y2 [] d2 [] 0).bind fun (z3 : (XT × List Int × List (List Int) × Int) ⊕ (XT × List Int × List (List Int))) =>
    match z3 with
    | .inl u4 =>
      some u4.2.2
    | .inr w5 =>
      some (w5.2.2, 0)
theorem er64 (rf : T.RF) (rb : T.RB) (d1 : XT) (d2 : List (List Int)) : T.stepF rf rb 64 (d1, d2) = r64 rf rb d1 d2 := by kernel_rfl
theorem or64 {d1 : XT} {d2 : List (List Int)} {y : (List (List Int) × Int)} (h : r64 T.rf T.rb d1 d2 = some y) : c64 T.rf d1 d2 = some y := T.rf_of (f := 64) (d := (d1, d2)) ((er64 T.rf T.rb d1 d2).trans h)

/- bailmentref12.Rows loop 0 -/
noncomputable def b112 (rf : T.RF) (rb : T.RB) (d1 : List (List Int)) (d2 : List (List Int)) (d3 : Int) : Option (Bool ⊕ Unit) :=
  bif decide (d3 < (((d1.length : Nat) : Int))) then
    bif inb d3 d1.length then
      (nth d1 d3.toNat).bind fun (x1 : List Int) =>
      bif inb d3 d2.length then
        (nth d2 d3.toNat).bind fun (x2 : List Int) =>
        (c37 rf x1 x2).bind fun (y3 : Bool) =>
        bif !y3 then
          some (.inl false)
        else
          k112 rb d1 d2 (IntKind.i64.wrap (d3 + 1))
      else
        none
    else
      none
  else
    some (.inr ())
theorem eb112 (rf : T.RF) (rb : T.RB) (d1 : List (List Int)) (d2 : List (List Int)) (d3 : Int) : T.stepB rf rb 112 (d1, d2, d3) = b112 rf rb d1 d2 d3 := by kernel_rfl
theorem ob112 {d1 : List (List Int)} {d2 : List (List Int)} {d3 : Int} {y : (Bool ⊕ Unit)} (h : b112 T.rf T.rb d1 d2 d3 = some y) : k112 T.rb d1 d2 d3 = some y := T.rb_of (κ := 112) (d := (d1, d2, d3)) ((eb112 T.rf T.rb d1 d2 d3).trans h)

/- bailmentref12.Rows -/
noncomputable def r72 (rf : T.RF) (rb : T.RB) (d1 : List (List Int)) (d2 : List (List Int)) : Option Bool :=
  bif (((d1.length : Nat) : Int)) != (((d2.length : Nat) : Int)) then
    some false
  else
    (k112 rb d1 d2 0).bind fun (z1 : Bool ⊕ Unit) =>
    match z1 with
    | .inl u2 =>
      some u2
    | .inr w3 =>
      some true
theorem er72 (rf : T.RF) (rb : T.RB) (d1 : List (List Int)) (d2 : List (List Int)) : T.stepF rf rb 72 (d1, d2) = r72 rf rb d1 d2 := by kernel_rfl
theorem or72 {d1 : List (List Int)} {d2 : List (List Int)} {y : Bool} (h : r72 T.rf T.rb d1 d2 = some y) : c72 T.rf d1 d2 = some y := T.rf_of (f := 72) (d := (d1, d2)) ((er72 T.rf T.rb d1 d2).trans h)

/- bailmentlaw15.SchedSame -/
noncomputable def r62 (rf : T.RF) (rb : T.RB) (d1 : XT) (d2 : List (List Int)) : Option Bool :=
  (c1 rf d1).bind fun (y1 : Bool) =>
  bif !y1 then
    (c2 rf).bind fun (y2 : Bool) =>
    some y2
  else
    (c63 rf [] d2).bind fun (y3 : Bool) =>
    bif !y3 then
      (c2 rf).bind fun (y4 : Bool) =>
      some y4
    else
      (c3 rf d1).bind fun (y5 : XT) =>
      (c35 rf y5).bind fun (y6 : XT × Int) =>
      (c64 rf d1 d2).bind fun (y7 : List (List Int) × Int) =>
      bif y6.2 != 0 then
        bif y7.2 == y6.2 then
          (c2 rf).bind fun (y8 : Bool) =>
          some y8
        else
          some false
      else
        (c58 rf y6.1).bind fun (y9 : XT) =>
        (c64 rf y9 d2).bind fun (y10 : List (List Int) × Int) =>
        (c72 rf y7.1 y10.1).bind fun (y11 : Bool) =>
        bif y11 then
          bif y7.2 == y10.2 then
            (c2 rf).bind fun (y12 : Bool) =>
            some y12
          else
            some false
        else
          some false
theorem er62 (rf : T.RF) (rb : T.RB) (d1 : XT) (d2 : List (List Int)) : T.stepF rf rb 62 (d1, d2) = r62 rf rb d1 d2 := by kernel_rfl
theorem or62 {d1 : XT} {d2 : List (List Int)} {y : Bool} (h : r62 T.rf T.rb d1 d2 = some y) : c62 T.rf d1 d2 = some y := T.rf_of (f := 62) (d := (d1, d2)) ((er62 T.rf T.rb d1 d2).trans h)

/- bailmentlaw15.SchedAgain -/
noncomputable def r73 (rf : T.RF) (rb : T.RB) (d1 : XT) : Option Bool :=
  (c1 rf d1).bind fun (y1 : Bool) =>
  bif !y1 then
    (c2 rf).bind fun (y2 : Bool) =>
    some y2
  else
    (c3 rf d1).bind fun (y3 : XT) =>
    (c35 rf y3).bind fun (y4 : XT × Int) =>
    bif y4.2 != 0 then
      bif (((y4.1.1.length : Nat) : Int)) == 0 then
        (c2 rf).bind fun (y5 : Bool) =>
        some y5
      else
        some false
    else
      (c35 rf y4.1).bind fun (y6 : XT × Int) =>
      bif y6.2 == 0 then
        (c38 rf y4.1).bind fun (y7 : Bool) =>
        bif y7 then
          bif (((y4.1.1.length : Nat) : Int)) == (((d1.1.length : Nat) : Int)) then
            (c58 rf y6.1).bind fun (y8 : XT) =>
            (c58 rf y4.1).bind fun (y9 : XT) =>
            (c59 rf y8 y9).bind fun (y10 : Bool) =>
            bif y10 then
              (c2 rf).bind fun (y11 : Bool) =>
              some y11
            else
              some false
          else
            some false
        else
          some false
      else
        some false
theorem er73 (rf : T.RF) (rb : T.RB) (d1 : XT) : T.stepF rf rb 73 d1 = r73 rf rb d1 := by kernel_rfl
theorem or73 {d1 : XT} {y : Bool} (h : r73 T.rf T.rb d1 = some y) : c73 T.rf d1 = some y := T.rf_of (f := 73) (d := d1) ((er73 T.rf T.rb d1).trans h)

/- bailmentlaw15.SchedBehind loop 0 -/
noncomputable def b113 (rf : T.RF) (rb : T.RB) (d1 : List Int) (d2 : List Int) (d3 : Int) : Option ((List Int × List Int × Bool) ⊕ (List Int × List Int)) :=
  bif decide (d3 < (((d1.length : Nat) : Int))) then
    bif inb d3 d1.length then
      (nth d1 d3.toNat).bind fun (x1 : Int) =>
      bif decide (x1 < 0) then
        some (.inl (d1, d2, false))
      else
      bif inb d3 d1.length then
        (nth d1 d3.toNat).bind fun (x2 : Int) =>
        bif decide (x2 ≥ (((d1.length : Nat) : Int))) then
          some (.inl (d1, d2, false))
        else
        bif inb d3 d1.length then
          (nth d1 d3.toNat).bind fun (x3 : Int) =>
          bif inb x3 d2.length then
            (nth d2 x3.toNat).bind fun (x4 : Int) =>
            bif x4 != 0 then
              some (.inl (d1, d2, false))
            else
            bif inb d3 d1.length then
              (nth d1 d3.toNat).bind fun (x5 : Int) =>
              bif inb x5 d2.length then
                bif Nat.blt x5.toNat d2.length then
                  k113 rb d1 (setNth d2 x5.toNat (IntKind.i64.wrap (d3 + 1))) (IntKind.i64.wrap (d3 + 1))
                else
                  none
              else
                none
            else
              none
          else
            none
        else
          none
      else
        none
    else
      none
  else
    some (.inr (d1, d2))
theorem eb113 (rf : T.RF) (rb : T.RB) (d1 : List Int) (d2 : List Int) (d3 : Int) : T.stepB rf rb 113 (d1, d2, d3) = b113 rf rb d1 d2 d3 := by kernel_rfl
theorem ob113 {d1 : List Int} {d2 : List Int} {d3 : Int} {y : ((List Int × List Int × Bool) ⊕ (List Int × List Int))} (h : b113 T.rf T.rb d1 d2 d3 = some y) : k113 T.rb d1 d2 d3 = some y := T.rb_of (κ := 113) (d := (d1, d2, d3)) ((eb113 T.rf T.rb d1 d2 d3).trans h)

/- bailmentlaw15.SchedBehind loop 2 -/
noncomputable def b114 (rf : T.RF) (rb : T.RB) (d1 : XT) (d2 : List Int) (d3 : Int) : Option ((XT × List Int × Bool) ⊕ (XT × List Int)) :=
  bif decide (d3 < (((d1.1.length : Nat) : Int))) then
    bif inb d3 d1.1.length then
      (nth d1.1 d3.toNat).bind fun (x1 : XO) =>
      (c55 rf x1).bind fun (y2 : List Int) =>
      (k115 rb d2 y2 d3 0).bind fun (z3 : (List Int × List Int × Bool) ⊕ (List Int × List Int)) =>
      match z3 with
      | .inl u4 =>
        some (.inl (d1, u4.1, u4.2.2))
      | .inr w5 =>
        bif d3 == 0 then
          bif (((w5.2.length : Nat) : Int)) == 0 then
            bif inb 0 w5.1.length then
              (nth w5.1 0).bind fun (x6 : Int) =>
              bif x6 != 1 then
                some (.inl (d1, w5.1, false))
              else
                k114 rb d1 w5.1 (IntKind.i64.wrap (d3 + 1))
            else
              none
          else
            k114 rb d1 w5.1 (IntKind.i64.wrap (d3 + 1))
        else
          k114 rb d1 w5.1 (IntKind.i64.wrap (d3 + 1))
    else
      none
  else
    some (.inr (d1, d2))
theorem eb114 (rf : T.RF) (rb : T.RB) (d1 : XT) (d2 : List Int) (d3 : Int) : T.stepB rf rb 114 (d1, d2, d3) = b114 rf rb d1 d2 d3 := by kernel_rfl
theorem ob114 {d1 : XT} {d2 : List Int} {d3 : Int} {y : ((XT × List Int × Bool) ⊕ (XT × List Int))} (h : b114 T.rf T.rb d1 d2 d3 = some y) : k114 T.rb d1 d2 d3 = some y := T.rb_of (κ := 114) (d := (d1, d2, d3)) ((eb114 T.rf T.rb d1 d2 d3).trans h)

/- bailmentlaw15.SchedBehind loop 4 -/
noncomputable def b115 (rf : T.RF) (rb : T.RB) (d1 : List Int) (d2 : List Int) (d3 : Int) (d4 : Int) : Option ((List Int × List Int × Bool) ⊕ (List Int × List Int)) :=
  bif decide (d4 < (((d2.length : Nat) : Int))) then
    bif inb d4 d2.length then
      (nth d2 d4.toNat).bind fun (x1 : Int) =>
      bif inb x1 d1.length then
        (nth d1 x1.toNat).bind fun (x2 : Int) =>
        bif inb d3 d1.length then
          (nth d1 d3.toNat).bind fun (x3 : Int) =>
          bif decide (x2 ≥ x3) then
            some (.inl (d1, d2, false))
          else
            k115 rb d1 d2 d3 (IntKind.i64.wrap (d4 + 1))
        else
          none
      else
        none
    else
      none
  else
    some (.inr (d1, d2))
theorem eb115 (rf : T.RF) (rb : T.RB) (d1 : List Int) (d2 : List Int) (d3 : Int) (d4 : Int) : T.stepB rf rb 115 (d1, d2, d3, d4) = b115 rf rb d1 d2 d3 d4 := by kernel_rfl
theorem ob115 {d1 : List Int} {d2 : List Int} {d3 : Int} {d4 : Int} {y : ((List Int × List Int × Bool) ⊕ (List Int × List Int))} (h : b115 T.rf T.rb d1 d2 d3 d4 = some y) : k115 T.rb d1 d2 d3 d4 = some y := T.rb_of (κ := 115) (d := (d1, d2, d3, d4)) ((eb115 T.rf T.rb d1 d2 d3 d4).trans h)

/- bailmentlaw15.SchedBehind -/
noncomputable def r74 (rf : T.RF) (rb : T.RB) (d1 : XT) : Option Bool :=
  (c1 rf d1).bind fun (y1 : Bool) =>
  bif !y1 then
    (c2 rf).bind fun (y2 : Bool) =>
    some y2
  else
    (c3 rf d1).bind fun (y3 : XT) =>
    (c4 rf y3).bind fun (y4 : List Int × Int) =>
    bif y4.2 != 0 then
      bif (((y4.1.length : Nat) : Int)) == 0 then
        (c2 rf).bind fun (y5 : Bool) =>
        some y5
      else
        some false
    else
    bif (((y4.1.length : Nat) : Int)) != (((d1.1.length : Nat) : Int)) then
      some false
    else
    bif inb' (((y4.1.length : Nat) : Int)) most then
      bif inb' (((y4.1.length : Nat) : Int)) y4.1.length then
        (k113 rb y4.1 (List.replicate y4.1.length (0 : Int)) 0).bind fun (z6 : (List Int × List Int × Bool) ⊕ (List Int × List Int)) =>
        match z6 with
        | .inl u7 =>
          some u7.2.2
        | .inr w8 =>
          (k114 rb d1 w8.2 0).bind fun (z9 : (XT × List Int × Bool) ⊕ (XT × List Int)) =>
          match z9 with
          | .inl u10 =>
            some u10.2.2
          | .inr w11 =>
            (c2 rf).bind fun (y12 : Bool) =>
            some y12
      else
        none
    else
      none
theorem er74 (rf : T.RF) (rb : T.RB) (d1 : XT) : T.stepF rf rb 74 d1 = r74 rf rb d1 := by kernel_rfl
theorem or74 {d1 : XT} {y : Bool} (h : r74 T.rf T.rb d1 = some y) : c74 T.rf d1 = some y := T.rf_of (f := 74) (d := d1) ((er74 T.rf T.rb d1).trans h)

/- bailmentlaw15.needs loop 0 -/
noncomputable def b118 (rf : T.RF) (rb : T.RB) (d1 : List Int) (d2 : Int) (d3 : Int) : Option ((List Int × Bool) ⊕ (List Int)) :=
  bif decide (d3 < (((d1.length : Nat) : Int))) then
    bif inb d3 d1.length then
      (nth d1 d3.toNat).bind fun (x1 : Int) =>
      bif x1 == d2 then
        some (.inl (d1, true))
      else
        k118 rb d1 d2 (IntKind.i64.wrap (d3 + 1))
    else
      none
  else
    some (.inr d1)
theorem eb118 (rf : T.RF) (rb : T.RB) (d1 : List Int) (d2 : Int) (d3 : Int) : T.stepB rf rb 118 (d1, d2, d3) = b118 rf rb d1 d2 d3 := by kernel_rfl
theorem ob118 {d1 : List Int} {d2 : Int} {d3 : Int} {y : ((List Int × Bool) ⊕ (List Int))} (h : b118 T.rf T.rb d1 d2 d3 = some y) : k118 T.rb d1 d2 d3 = some y := T.rb_of (κ := 118) (d := (d1, d2, d3)) ((eb118 T.rf T.rb d1 d2 d3).trans h)

/- bailmentlaw15.needs -/
noncomputable def r76 (rf : T.RF) (rb : T.RB) (d1 : XO) (d2 : Int) : Option Bool :=
  (c55 rf d1).bind fun (y1 : List Int) =>
  (k118 rb y1 d2 0).bind fun (z2 : (List Int × Bool) ⊕ (List Int)) =>
  match z2 with
  | .inl u3 =>
    some u3.2
  | .inr w4 =>
    some false
theorem er76 (rf : T.RF) (rb : T.RB) (d1 : XO) (d2 : Int) : T.stepF rf rb 76 (d1, d2) = r76 rf rb d1 d2 := by kernel_rfl
theorem or76 {d1 : XO} {d2 : Int} {y : Bool} (h : r76 T.rf T.rb d1 d2 = some y) : c76 T.rf d1 d2 = some y := T.rf_of (f := 76) (d := (d1, d2)) ((er76 T.rf T.rb d1 d2).trans h)

/- bailmentlaw15.SchedEnds loop 0 -/
noncomputable def b116 (rf : T.RF) (rb : T.RB) (d1 : XT) (d2 : List Int) (d3 : Int) : Option ((XT × List Int × Bool) ⊕ (XT × List Int)) :=
  bif decide (d3 < (((d1.1.length : Nat) : Int))) then
    (k117 rb d1 d2 d3 0).bind fun (z1 : (XT × List Int × Bool) ⊕ (XT × List Int)) =>
    match z1 with
    | .inl u2 =>
      some (.inl u2)
    | .inr w3 =>
      k116 rb w3.1 w3.2 (IntKind.i64.wrap (d3 + 1))
  else
    some (.inr (d1, d2))
theorem eb116 (rf : T.RF) (rb : T.RB) (d1 : XT) (d2 : List Int) (d3 : Int) : T.stepB rf rb 116 (d1, d2, d3) = b116 rf rb d1 d2 d3 := by kernel_rfl
theorem ob116 {d1 : XT} {d2 : List Int} {d3 : Int} {y : ((XT × List Int × Bool) ⊕ (XT × List Int))} (h : b116 T.rf T.rb d1 d2 d3 = some y) : k116 T.rb d1 d2 d3 = some y := T.rb_of (κ := 116) (d := (d1, d2, d3)) ((eb116 T.rf T.rb d1 d2 d3).trans h)

/- bailmentlaw15.SchedEnds loop 2 -/
noncomputable def b117 (rf : T.RF) (rb : T.RB) (d1 : XT) (d2 : List Int) (d3 : Int) (d4 : Int) : Option ((XT × List Int × Bool) ⊕ (XT × List Int)) :=
  bif decide (d4 < (((d1.1.length : Nat) : Int))) then
    bif inb d4 d1.1.length then
      (nth d1.1 d4.toNat).bind fun (x1 : XO) =>
      (c76 rf x1 d3).bind fun (y2 : Bool) =>
      bif y2 then
        bif inb d3 d2.length then
          (nth d2 d3.toNat).bind fun (x3 : Int) =>
          bif decide (d4 > x3) then
            some (.inl (d1, d2, false))
          else
          bif inb d3 d2.length then
            (nth d2 d3.toNat).bind fun (x4 : Int) =>
            bif d4 == x4 then
              bif !y2 then
                some (.inl (d1, d2, false))
              else
                k117 rb d1 d2 d3 (IntKind.i64.wrap (d4 + 1))
            else
              k117 rb d1 d2 d3 (IntKind.i64.wrap (d4 + 1))
          else
            none
        else
          none
      else
      bif inb d3 d2.length then
        (nth d2 d3.toNat).bind fun (x5 : Int) =>
        bif d4 == x5 then
          bif !y2 then
            some (.inl (d1, d2, false))
          else
            k117 rb d1 d2 d3 (IntKind.i64.wrap (d4 + 1))
        else
          k117 rb d1 d2 d3 (IntKind.i64.wrap (d4 + 1))
      else
        none
    else
      none
  else
    some (.inr (d1, d2))
theorem eb117 (rf : T.RF) (rb : T.RB) (d1 : XT) (d2 : List Int) (d3 : Int) (d4 : Int) : T.stepB rf rb 117 (d1, d2, d3, d4) = b117 rf rb d1 d2 d3 d4 := by kernel_rfl
theorem ob117 {d1 : XT} {d2 : List Int} {d3 : Int} {d4 : Int} {y : ((XT × List Int × Bool) ⊕ (XT × List Int))} (h : b117 T.rf T.rb d1 d2 d3 d4 = some y) : k117 T.rb d1 d2 d3 d4 = some y := T.rb_of (κ := 117) (d := (d1, d2, d3, d4)) ((eb117 T.rf T.rb d1 d2 d3 d4).trans h)

/- bailmentlaw15.SchedEnds -/
noncomputable def r75 (rf : T.RF) (rb : T.RB) (d1 : XT) : Option Bool :=
  (c1 rf d1).bind fun (y1 : Bool) =>
  bif !y1 then
    (c2 rf).bind fun (y2 : Bool) =>
    some y2
  else
    (c3 rf d1).bind fun (y3 : XT) =>
    (c35 rf y3).bind fun (y4 : XT × Int) =>
    bif y4.2 != 0 then
      (c2 rf).bind fun (y5 : Bool) =>
      some y5
    else
      (c58 rf y4.1).bind fun (y6 : XT) =>
      (c42 rf y4.1).bind fun (y7 : List Int) =>
      bif (((y7.length : Nat) : Int)) != (((y6.1.length : Nat) : Int)) then
        some false
      else
        (k116 rb y6 y7 0).bind fun (z8 : (XT × List Int × Bool) ⊕ (XT × List Int)) =>
        match z8 with
        | .inl u9 =>
          some u9.2.2
        | .inr w10 =>
          (c2 rf).bind fun (y11 : Bool) =>
          some y11
theorem er75 (rf : T.RF) (rb : T.RB) (d1 : XT) : T.stepF rf rb 75 d1 = r75 rf rb d1 := by kernel_rfl
theorem or75 {d1 : XT} {y : Bool} (h : r75 T.rf T.rb d1 = some y) : c75 T.rf d1 = some y := T.rf_of (f := 75) (d := d1) ((er75 T.rf T.rb d1).trans h)

theorem place_len : tabs.placeL.length = 119 := rfl
end Go.Proofs.Ytcdjidfdjlejdaa.R
