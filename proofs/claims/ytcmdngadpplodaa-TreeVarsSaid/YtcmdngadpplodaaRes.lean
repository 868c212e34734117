/-
  OUR OWN, PRINTED BY A PROGRAM OF OURS (table2.py): the table of the functions, and what each comes to.
-/
import Derived.Test.YtcmdngadpplodaaBmRun
import Derived.Test.YtcmdngadpplodaaProg
import Derived.KernelRfl
namespace Go.Proofs.Ytcmdngadpplodaa.R
open Go Go.Bm Go.Proofs
set_option linter.unusedVariables false
set_option linter.unusedSimpArgs false
set_option maxRecDepth 100000

noncomputable def tabs : Tabs := {
  tabL := [(3, .leaf (.int .i64 0)),
  (4, .leaf (.bool false)),
  (9, .leaf (.str [])),
  (23, .slice (.prod (.int .i64) (.prod (.int .i64) (.prod (.int .i64) (.prod (.int .i64) (.prod (.int .i64) .str))))) 30),
  (27, .slice (.int .i64) 3),
  (30, .struct [(0, 1, false), (1, 1, false), (2, 1, false), (3, 1, false), (4, 1, false), (5, 1, false)] [.int .i64 0, .int .i64 0, .int .i64 0, .int .i64 0, .int .i64 0, .str []]),
  (36, .slice .str 9),
  (38, .slice (.list (.prod (.int .i64) (.prod (.int .i64) (.prod (.int .i64) (.prod (.int .i64) (.prod (.int .i64) .str)))))) 23),
  (48, .slice .bool 4),
  (53, .map .str .bool false),
  (61, .leaf (.nilp)),
  (62, .slice .unit 61)]
  eqtL := [30]
  keysL := [(3, [0]), (4, [36]), (5, [42]), (6, [45]), (7, [46]), (8, [47]), (9, [48]), (10, [50]), (11, [1]), (12, [2]), (13, [24]), (14, [4]), (15, [23]), (16, [25]), (17, [8]), (18, [12]), (19, [29]), (20, [20]), (21, [17]), (22, [30]), (23, [22]), (24, [21]), (25, [33]), (26, [37]), (27, [3]), (28, [38]), (29, [7]), (30, [43]), (31, [49]), (32, [26]), (33, [27]), (34, [28]), (35, [9]), (36, [10]), (37, [13]), (38, [18]), (39, [31]), (40, [34]), (41, [35]), (42, [5]), (43, [6]), (44, [39]), (45, [40]), (46, [32]), (47, [14]), (48, [16]), (49, [19]), (50, [44]), (51, [11]), (52, [41]), (53, [15])]
  kinL := [⟨[], [.one (.pl (.list (.prod (.int .i64) (.prod (.int .i64) (.prod (.int .i64) (.prod (.int .i64) (.prod (.int .i64) .str))))))), .one (.pl (.int .i64))]⟩,
  ⟨[], [.one (.pl (.list (.prod (.int .i64) (.prod (.int .i64) (.prod (.int .i64) (.prod (.int .i64) (.prod (.int .i64) .str))))))), .one (.pl (.int .i64))]⟩,
  ⟨[], []⟩,
  ⟨[], [.one (.pl (.int .i64)), .one (.pl (.int .i64)), .one (.pl .str), .one (.pl (.list (.list (.prod (.int .i64) (.prod (.int .i64) (.prod (.int .i64) (.prod (.int .i64) (.prod (.int .i64) .str))))))))]⟩,
  ⟨[], [.agg [.pl (.prod (.int .i64) (.prod (.int .i64) (.prod (.int .i64) (.prod (.int .i64) (.prod (.int .i64) .str)))))]]⟩,
  ⟨[(true, .arr (.prod (.int .i64) (.prod (.int .i64) (.prod (.int .i64) (.prod (.int .i64) (.prod (.int .i64) .str))))))], [.one (.sl 0), .one (.pl (.list (.prod (.int .i64) (.prod (.int .i64) (.prod (.int .i64) (.prod (.int .i64) (.prod (.int .i64) .str)))))))]⟩,
  ⟨[], [.agg [.pl (.prod (.int .i64) (.prod (.int .i64) (.prod (.int .i64) (.prod (.int .i64) (.prod (.int .i64) .str)))))], .one (.pl (.list (.int .i64)))]⟩,
  ⟨[], [.one (.pl (.list (.prod (.int .i64) (.prod (.int .i64) (.prod (.int .i64) (.prod (.int .i64) (.prod (.int .i64) .str))))))), .one (.pl (.list .str)), .one (.pl (.list (.list (.prod (.int .i64) (.prod (.int .i64) (.prod (.int .i64) (.prod (.int .i64) (.prod (.int .i64) .str))))))))]⟩,
  ⟨[], [.one (.pl (.list (.prod (.int .i64) (.prod (.int .i64) (.prod (.int .i64) (.prod (.int .i64) (.prod (.int .i64) .str)))))))]⟩,
  ⟨[], [.agg [.pl (.prod (.int .i64) (.prod (.int .i64) (.prod (.int .i64) (.prod (.int .i64) (.prod (.int .i64) .str)))))]]⟩,
  ⟨[], [.one (.pl (.list .bool)), .one (.pl .bool)]⟩,
  ⟨[], [.one (.pl (.list .bool)), .one (.pl .bool)]⟩,
  ⟨[], [.one (.pl (.list (.prod (.int .i64) (.prod (.int .i64) (.prod (.int .i64) (.prod (.int .i64) (.prod (.int .i64) .str)))))))]⟩,
  ⟨[], [.one (.pl (.list (.prod (.int .i64) (.prod (.int .i64) (.prod (.int .i64) (.prod (.int .i64) (.prod (.int .i64) .str)))))))]⟩,
  ⟨[], [.one (.pl (.list (.list (.prod (.int .i64) (.prod (.int .i64) (.prod (.int .i64) (.prod (.int .i64) (.prod (.int .i64) .str)))))))), .one (.fn 48 [] [])]⟩,
  ⟨[], [.one (.pl (.list (.list (.prod (.int .i64) (.prod (.int .i64) (.prod (.int .i64) (.prod (.int .i64) (.prod (.int .i64) .str)))))))), .one (.fn 48 [] [])]⟩,
  ⟨[], [.one (.pl (.list (.prod (.int .i64) (.prod (.int .i64) (.prod (.int .i64) (.prod (.int .i64) (.prod (.int .i64) .str)))))))]⟩,
  ⟨[], [.one (.pl (.list (.prod (.int .i64) (.prod (.int .i64) (.prod (.int .i64) (.prod (.int .i64) (.prod (.int .i64) .str))))))), .one (.pl (.int .i64))]⟩,
  ⟨[(true, .arr (.prod (.int .i64) (.prod (.int .i64) (.prod (.int .i64) (.prod (.int .i64) (.prod (.int .i64) .str))))))], [.one (.sl 0), .one (.pl (.list (.prod (.int .i64) (.prod (.int .i64) (.prod (.int .i64) (.prod (.int .i64) (.prod (.int .i64) .str))))))), .one (.pl (.int .i64))]⟩,
  ⟨[], [.one (.pl (.list .str)), .one (.pl .str)]⟩,
  ⟨[], [.one (.pl (.list (.prod (.int .i64) (.prod (.int .i64) (.prod (.int .i64) (.prod (.int .i64) (.prod (.int .i64) .str))))))), .one (.pl (.list (.prod (.int .i64) (.prod (.int .i64) (.prod (.int .i64) (.prod (.int .i64) (.prod (.int .i64) .str)))))))]⟩,
  ⟨[], [.one (.pl (.list (.prod (.int .i64) (.prod (.int .i64) (.prod (.int .i64) (.prod (.int .i64) (.prod (.int .i64) .str)))))))]⟩,
  ⟨[], [.one (.pl (.list .str)), .one (.pl (.list .str))]⟩,
  ⟨[], [.agg [.pl (.prod (.int .i64) (.prod (.int .i64) (.prod (.int .i64) (.prod (.int .i64) (.prod (.int .i64) .str)))))]]⟩,
  ⟨[], [.one (.pl (.list (.int .i64))), .one (.pl (.list (.int .i64)))]⟩,
  ⟨[], [.one (.pl (.list (.prod (.int .i64) (.prod (.int .i64) (.prod (.int .i64) (.prod (.int .i64) (.prod (.int .i64) .str)))))))]⟩,
  ⟨[], [.agg [.pl (.prod (.int .i64) (.prod (.int .i64) (.prod (.int .i64) (.prod (.int .i64) (.prod (.int .i64) .str)))))]]⟩,
  ⟨[], [.agg [.pl (.prod (.int .i64) (.prod (.int .i64) (.prod (.int .i64) (.prod (.int .i64) (.prod (.int .i64) .str)))))]]⟩,
  ⟨[], [.one (.pl (.list (.prod (.int .i64) (.prod (.int .i64) (.prod (.int .i64) (.prod (.int .i64) (.prod (.int .i64) .str))))))), .one (.pl (.int .i64))]⟩,
  ⟨[], [.one (.pl (.list (.prod (.int .i64) (.prod (.int .i64) (.prod (.int .i64) (.prod (.int .i64) (.prod (.int .i64) .str)))))))]⟩,
  ⟨[], [.one (.pl (.list (.prod (.int .i64) (.prod (.int .i64) (.prod (.int .i64) (.prod (.int .i64) (.prod (.int .i64) .str))))))), .one (.pl (.int .i64))]⟩,
  ⟨[(true, .arr (.prod (.int .i64) (.prod (.int .i64) (.prod (.int .i64) (.prod (.int .i64) (.prod (.int .i64) .str))))))], [.one (.pl (.list (.prod (.int .i64) (.prod (.int .i64) (.prod (.int .i64) (.prod (.int .i64) (.prod (.int .i64) .str))))))), .one (.pl (.int .i64)), .one (.sl 0)]⟩,
  ⟨[], [.agg [.pl (.prod (.int .i64) (.prod (.int .i64) (.prod (.int .i64) (.prod (.int .i64) (.prod (.int .i64) .str)))))], .one (.pl (.list (.int .i64)))]⟩,
  ⟨[], [.one (.pl (.list (.prod (.int .i64) (.prod (.int .i64) (.prod (.int .i64) (.prod (.int .i64) (.prod (.int .i64) .str)))))))]⟩,
  ⟨[], [.one (.pl (.list (.prod (.int .i64) (.prod (.int .i64) (.prod (.int .i64) (.prod (.int .i64) (.prod (.int .i64) .str)))))))]⟩,
  ⟨[(true, .arr .str)], [.one (.sl 0), .one (.pl .str)]⟩,
  ⟨[], [.agg [.pl (.prod (.int .i64) (.prod (.int .i64) (.prod (.int .i64) (.prod (.int .i64) (.prod (.int .i64) .str)))))], .one (.pl (.list (.list (.prod (.int .i64) (.prod (.int .i64) (.prod (.int .i64) (.prod (.int .i64) (.prod (.int .i64) .str))))))))]⟩,
  ⟨[], [.one (.pl (.list (.prod (.int .i64) (.prod (.int .i64) (.prod (.int .i64) (.prod (.int .i64) (.prod (.int .i64) .str)))))))]⟩,
  ⟨[], [.one (.pl (.int .i64)), .one (.pl (.int .i64)), .one (.pl .str), .one (.pl (.list (.list (.prod (.int .i64) (.prod (.int .i64) (.prod (.int .i64) (.prod (.int .i64) (.prod (.int .i64) .str))))))))]⟩,
  ⟨[], [.one (.pl (.int .i64)), .one (.pl (.int .i64)), .one (.pl .str)]⟩,
  ⟨[(true, .arr (.prod (.int .i64) (.prod (.int .i64) (.prod (.int .i64) (.prod (.int .i64) (.prod (.int .i64) .str))))))], [.one (.sl 0), .one (.pl (.list (.prod (.int .i64) (.prod (.int .i64) (.prod (.int .i64) (.prod (.int .i64) (.prod (.int .i64) .str)))))))]⟩,
  ⟨[], [.agg [.pl (.prod (.int .i64) (.prod (.int .i64) (.prod (.int .i64) (.prod (.int .i64) (.prod (.int .i64) .str)))))], .one (.pl (.int .i64))]⟩,
  ⟨[], [.one (.pl (.list (.prod (.int .i64) (.prod (.int .i64) (.prod (.int .i64) (.prod (.int .i64) (.prod (.int .i64) .str))))))), .one (.pl (.list .str)), .one (.pl (.list (.list (.prod (.int .i64) (.prod (.int .i64) (.prod (.int .i64) (.prod (.int .i64) (.prod (.int .i64) .str))))))))]⟩,
  ⟨[], [.one (.pl (.list (.prod (.int .i64) (.prod (.int .i64) (.prod (.int .i64) (.prod (.int .i64) (.prod (.int .i64) .str))))))), .one (.pl (.list .str)), .one (.pl (.list (.list (.prod (.int .i64) (.prod (.int .i64) (.prod (.int .i64) (.prod (.int .i64) (.prod (.int .i64) .str))))))))]⟩,
  ⟨[], [.one (.pl (.list .str)), .one (.pl .str)]⟩,
  ⟨[], [.one (.pl (.list (.prod (.int .i64) (.prod (.int .i64) (.prod (.int .i64) (.prod (.int .i64) (.prod (.int .i64) .str)))))))]⟩,
  ⟨[], [.one (.pl (.list (.prod (.int .i64) (.prod (.int .i64) (.prod (.int .i64) (.prod (.int .i64) (.prod (.int .i64) .str))))))), .one (.pl (.list (.prod (.int .i64) (.prod (.int .i64) (.prod (.int .i64) (.prod (.int .i64) (.prod (.int .i64) .str)))))))]⟩,
  ⟨[], [.one (.pl (.list (.prod (.int .i64) (.prod (.int .i64) (.prod (.int .i64) (.prod (.int .i64) (.prod (.int .i64) .str)))))))]⟩,
  ⟨[], [.one (.pl (.list (.prod (.int .i64) (.prod (.int .i64) (.prod (.int .i64) (.prod (.int .i64) (.prod (.int .i64) .str))))))), .one (.pl (.list (.prod (.int .i64) (.prod (.int .i64) (.prod (.int .i64) (.prod (.int .i64) (.prod (.int .i64) .str)))))))]⟩,
  ⟨[], [.one (.pl (.list .str)), .one (.pl .str)]⟩,
  ⟨[], [.one (.pl (.list (.prod (.int .i64) (.prod (.int .i64) (.prod (.int .i64) (.prod (.int .i64) (.prod (.int .i64) .str))))))), .one (.pl (.list (.prod (.int .i64) (.prod (.int .i64) (.prod (.int .i64) (.prod (.int .i64) (.prod (.int .i64) .str))))))), .one (.pl .str)]⟩]
  koutsL := [[⟨[], [.one (.pl .bool)]⟩],
  [⟨[], [.one (.pl .bool)]⟩],
  [⟨[], [.one (.pl .bool)]⟩],
  [⟨[(true, .arr (.prod (.int .i64) (.prod (.int .i64) (.prod (.int .i64) (.prod (.int .i64) (.prod (.int .i64) .str))))))], [.one (.sl 0)]⟩],
  [⟨[(true, .arr (.int .i64))], [.one (.sl 0)]⟩],
  [⟨[(true, .gone), (true, .arr (.prod (.int .i64) (.prod (.int .i64) (.prod (.int .i64) (.prod (.int .i64) (.prod (.int .i64) .str))))))], [.one (.sl 1)]⟩],
  [⟨[], [.agg [.pl (.prod (.int .i64) (.prod (.int .i64) (.prod (.int .i64) (.prod (.int .i64) (.prod (.int .i64) .str)))))]]⟩],
  [⟨[(true, .arr (.prod (.int .i64) (.prod (.int .i64) (.prod (.int .i64) (.prod (.int .i64) (.prod (.int .i64) .str))))))], [.one (.sl 0)]⟩],
  [⟨[], [.one (.pl .bool)]⟩],
  [⟨[], [.one (.pl .bool)]⟩],
  [⟨[], [.one (.pl .bool)]⟩],
  [⟨[], [.one (.pl (.int .i64))]⟩],
  [⟨[], [.one (.pl (.int .i64))]⟩],
  [⟨[(true, .arr (.int .i64))], [.one (.sl 0)]⟩],
  [⟨[], [.one (.pl .bool)]⟩],
  [⟨[], [.one (.pl (.int .i64))]⟩],
  [⟨[], [.one (.pl .bool)]⟩],
  [⟨[(true, .arr (.prod (.int .i64) (.prod (.int .i64) (.prod (.int .i64) (.prod (.int .i64) (.prod (.int .i64) .str))))))], [.one (.sl 0)]⟩],
  [⟨[(true, .gone), (true, .arr (.prod (.int .i64) (.prod (.int .i64) (.prod (.int .i64) (.prod (.int .i64) (.prod (.int .i64) .str))))))], [.one (.sl 1)]⟩],
  [⟨[], [.one (.pl (.int .i64))]⟩],
  [⟨[], [.one (.pl .bool)]⟩],
  [⟨[(true, .arr .str)], [.one (.sl 0)]⟩],
  [⟨[], [.one (.pl .bool)]⟩],
  [⟨[(true, .arr (.int .i64))], [.one (.sl 0)]⟩],
  [⟨[], [.one (.pl .bool)]⟩],
  [⟨[], [.one (.pl .bool)]⟩],
  [⟨[], [.one (.pl .bool)]⟩],
  [⟨[], [.one (.pl .bool)]⟩],
  [⟨[], [.one (.pl .bool)]⟩],
  [⟨[], [.one (.pl (.int .i64))]⟩],
  [⟨[(true, .arr (.prod (.int .i64) (.prod (.int .i64) (.prod (.int .i64) (.prod (.int .i64) (.prod (.int .i64) .str))))))], [.one (.sl 0)]⟩],
  [⟨[(true, .gone), (true, .arr (.prod (.int .i64) (.prod (.int .i64) (.prod (.int .i64) (.prod (.int .i64) (.prod (.int .i64) .str))))))], [.one (.sl 1)]⟩],
  [⟨[], [.agg [.pl (.prod (.int .i64) (.prod (.int .i64) (.prod (.int .i64) (.prod (.int .i64) (.prod (.int .i64) .str)))))]]⟩],
  [⟨[(true, .arr .str)], [.one (.sl 0)]⟩],
  [⟨[(true, .arr (.prod (.int .i64) (.prod (.int .i64) (.prod (.int .i64) (.prod (.int .i64) (.prod (.int .i64) .str))))))], [.one (.sl 0)]⟩],
  [⟨[(true, .arr .str)], [.one (.pl .bool)]⟩],
  [⟨[], [.one (.pl .bool)]⟩],
  [⟨[(true, .arr (.prod (.int .i64) (.prod (.int .i64) (.prod (.int .i64) (.prod (.int .i64) (.prod (.int .i64) .str))))))], [.one (.sl 0)]⟩],
  [⟨[(true, .arr (.prod (.int .i64) (.prod (.int .i64) (.prod (.int .i64) (.prod (.int .i64) (.prod (.int .i64) .str))))))], [.one (.sl 0)]⟩],
  [⟨[], [.agg [.pl (.prod (.int .i64) (.prod (.int .i64) (.prod (.int .i64) (.prod (.int .i64) (.prod (.int .i64) .str)))))]]⟩],
  [⟨[(true, .gone), (true, .arr (.prod (.int .i64) (.prod (.int .i64) (.prod (.int .i64) (.prod (.int .i64) (.prod (.int .i64) .str))))))], [.one (.sl 1)]⟩],
  [⟨[], [.agg [.pl (.prod (.int .i64) (.prod (.int .i64) (.prod (.int .i64) (.prod (.int .i64) (.prod (.int .i64) .str)))))]]⟩],
  [⟨[], [.one (.pl .bool)]⟩],
  [⟨[(true, .arr (.prod (.int .i64) (.prod (.int .i64) (.prod (.int .i64) (.prod (.int .i64) (.prod (.int .i64) .str))))))], [.one (.sl 0)]⟩],
  [⟨[], [.one (.pl (.int .i64))]⟩],
  [⟨[], [.one (.pl .bool)]⟩],
  [⟨[], [.one (.pl .bool)]⟩],
  [⟨[], [.one (.pl .bool)]⟩],
  [⟨[], [.one (.pl .bool)]⟩],
  [⟨[], [.one (.pl (.int .i64))]⟩],
  [⟨[], [.one (.pl .bool)]⟩]]
  bkL := [noBlk,
  noBlk,
  ⟨[0, 5, 12, 13, 14], ⟨[(false, .arr (.prod (.int .i64) (.prod (.int .i64) (.prod (.int .i64) (.prod (.int .i64) (.prod (.int .i64) .str))))))], [.one (.sl 0), .one (.pl (.int .i64)), .one (.pl (.list (.prod (.int .i64) (.prod (.int .i64) (.prod (.int .i64) (.prod (.int .i64) (.prod (.int .i64) .str))))))), .one (.pl (.int .i64)), .one (.pl (.int .i64))]⟩, [4], [(.norm, [0], ⟨[(true, .gone), (true, .arr (.prod (.int .i64) (.prod (.int .i64) (.prod (.int .i64) (.prod (.int .i64) (.prod (.int .i64) .str))))))], [.one (.sl 1)]⟩)]⟩,
  ⟨[0, 10, 11, 33, 34, 35], ⟨[(false, .arr (.prod (.int .i64) (.prod (.int .i64) (.prod (.int .i64) (.prod (.int .i64) (.prod (.int .i64) .str)))))), (false, .arr (.int .i64))], [.one (.pl (.int .i64)), .one (.sl 0), .one (.sl 1), .one (.pl (.list (.list (.prod (.int .i64) (.prod (.int .i64) (.prod (.int .i64) (.prod (.int .i64) (.prod (.int .i64) .str)))))))), .one (.pl (.int .i64)), .one (.pl (.int .i64))]⟩, [9], [(.ret, [8], ⟨[(true, .gone), (true, .gone), (true, .arr (.prod (.int .i64) (.prod (.int .i64) (.prod (.int .i64) (.prod (.int .i64) (.prod (.int .i64) .str))))))], [.one (.sl 2)]⟩), (.norm, [10, 11], ⟨[(true, .gone), (true, .gone), (true, .arr (.prod (.int .i64) (.prod (.int .i64) (.prod (.int .i64) (.prod (.int .i64) (.prod (.int .i64) .str)))))), (true, .arr (.int .i64))], [.one (.sl 2), .one (.sl 3)]⟩)]⟩,
  ⟨[0, 3, 30, 31, 32], ⟨[(true, .arr .bool)], [.one (.pl (.list (.prod (.int .i64) (.prod (.int .i64) (.prod (.int .i64) (.prod (.int .i64) (.prod (.int .i64) .str))))))), .one (.sl 0), .one (.pl (.list (.prod (.int .i64) (.prod (.int .i64) (.prod (.int .i64) (.prod (.int .i64) (.prod (.int .i64) .str))))))), .one (.pl (.int .i64)), .one (.pl (.int .i64))]⟩, [0, 3], [(.ret, [2], ⟨[(true, .arr .bool)], [.one (.pl .bool)]⟩), (.norm, [], ⟨[(true, .arr .bool)], []⟩)]⟩,
  ⟨[1, 3], ⟨[(true, .box [.pl (.prod (.int .i64) (.prod (.int .i64) (.prod (.int .i64) (.prod (.int .i64) (.prod (.int .i64) .str)))))])], [.one (.ptr 0 0), .one (.pl (.int .i64))]⟩, [], [(.ret, [2], ⟨[(true, .box [.pl (.prod (.int .i64) (.prod (.int .i64) (.prod (.int .i64) (.prod (.int .i64) (.prod (.int .i64) .str)))))])], [.one (.pl .bool)]⟩)]⟩,
  ⟨[1, 3, 4], ⟨[(true, .box [.pl (.prod (.int .i64) (.prod (.int .i64) (.prod (.int .i64) (.prod (.int .i64) (.prod (.int .i64) .str)))))]), (true, .box [.pl (.prod (.int .i64) (.prod (.int .i64) (.prod (.int .i64) (.prod (.int .i64) (.prod (.int .i64) .str)))))])], [.one (.ptr 0 0), .one (.pl (.int .i64)), .one (.ptr 1 0)]⟩, [], [(.ret, [2], ⟨[(true, .box [.pl (.prod (.int .i64) (.prod (.int .i64) (.prod (.int .i64) (.prod (.int .i64) (.prod (.int .i64) .str)))))]), (true, .box [.pl (.prod (.int .i64) (.prod (.int .i64) (.prod (.int .i64) (.prod (.int .i64) (.prod (.int .i64) .str)))))])], [.one (.pl .bool)]⟩)]⟩,
  ⟨[0, 3, 4, 5, 41, 42, 43], ⟨[(true, .arr .bool), (true, .box [.pl (.prod (.int .i64) (.prod (.int .i64) (.prod (.int .i64) (.prod (.int .i64) (.prod (.int .i64) .str)))))]), (true, .arr (.int .i64))], [.one (.pl (.list (.prod (.int .i64) (.prod (.int .i64) (.prod (.int .i64) (.prod (.int .i64) (.prod (.int .i64) .str))))))), .one (.sl 0), .one (.pl (.int .i64)), .one (.ptr 1 0), .one (.sl 2), .one (.pl (.int .i64)), .one (.pl (.int .i64))]⟩, [0, 3, 30, 31, 32], [(.ret, [2], ⟨[(true, .arr .bool), (true, .box [.pl (.prod (.int .i64) (.prod (.int .i64) (.prod (.int .i64) (.prod (.int .i64) (.prod (.int .i64) .str)))))]), (true, .arr (.int .i64))], [.one (.pl .bool)]⟩), (.norm, [], ⟨[(true, .arr .bool), (true, .box [.pl (.prod (.int .i64) (.prod (.int .i64) (.prod (.int .i64) (.prod (.int .i64) (.prod (.int .i64) .str)))))]), (true, .arr (.int .i64))], []⟩)]⟩,
  ⟨[0, 1, 7, 8], ⟨[], [.one (.pl (.list .bool)), .one (.pl .bool), .one (.pl (.int .i64)), .one (.pl (.int .i64))]⟩, [], [(.ret, [4], ⟨[], [.one (.pl (.int .i64))]⟩), (.norm, [], ⟨[], []⟩)]⟩,
  noBlk,
  noBlk,
  noBlk,
  noBlk,
  noBlk,
  noBlk,
  ⟨[3, 11, 12, 13], ⟨[(true, .arr (.int .i64))], [.one (.sl 0), .one (.pl (.list (.prod (.int .i64) (.prod (.int .i64) (.prod (.int .i64) (.prod (.int .i64) (.prod (.int .i64) .str))))))), .one (.pl (.int .i64)), .one (.pl (.int .i64))]⟩, [2, 3], [(.norm, [], ⟨[(true, .arr (.int .i64))], []⟩)]⟩,
  ⟨[3, 4, 19, 20, 21], ⟨[(true, .arr (.int .i64)), (true, .arr (.int .i64))], [.one (.sl 0), .one (.pl (.int .i64)), .one (.sl 1), .one (.pl (.int .i64)), .one (.pl (.int .i64))]⟩, [3, 4, 11, 12, 13], [(.norm, [], ⟨[(true, .arr (.int .i64)), (true, .arr (.int .i64))], []⟩)]⟩,
  ⟨[0, 1, 7, 8], ⟨[], [.one (.pl (.list (.list (.prod (.int .i64) (.prod (.int .i64) (.prod (.int .i64) (.prod (.int .i64) (.prod (.int .i64) .str)))))))), .one (.fn 48 [] []), .one (.pl (.int .i64)), .one (.pl (.int .i64))]⟩, [], [(.ret, [4], ⟨[], [.one (.pl (.int .i64))]⟩), (.norm, [], ⟨[], []⟩)]⟩,
  noBlk,
  ⟨[0, 1, 7, 15, 16, 17], ⟨[(false, .arr (.prod (.int .i64) (.prod (.int .i64) (.prod (.int .i64) (.prod (.int .i64) (.prod (.int .i64) .str)))))), (true, .arr (.int .i64))], [.one (.sl 0), .one (.pl (.list (.prod (.int .i64) (.prod (.int .i64) (.prod (.int .i64) (.prod (.int .i64) (.prod (.int .i64) .str))))))), .one (.sl 1), .one (.sl 1), .one (.pl (.int .i64)), .one (.pl (.int .i64))]⟩, [1, 2, 6, 7], [(.norm, [0], ⟨[(true, .gone), (true, .arr (.int .i64)), (true, .arr (.prod (.int .i64) (.prod (.int .i64) (.prod (.int .i64) (.prod (.int .i64) (.prod (.int .i64) .str))))))], [.one (.sl 2)]⟩)]⟩,
  noBlk,
  ⟨[0, 1, 7, 8], ⟨[], [.one (.pl (.list .str)), .one (.pl .str), .one (.pl (.int .i64)), .one (.pl (.int .i64))]⟩, [], [(.ret, [4], ⟨[], [.one (.pl (.int .i64))]⟩), (.norm, [], ⟨[], []⟩)]⟩,
  noBlk,
  ⟨[1, 2, 7, 8, 33, 34, 35], ⟨[(false, .arr (.prod (.int .i64) (.prod (.int .i64) (.prod (.int .i64) (.prod (.int .i64) (.prod (.int .i64) .str)))))), (false, .arr (.int .i64)), (true, .arr (.prod (.int .i64) (.prod (.int .i64) (.prod (.int .i64) (.prod (.int .i64) (.prod (.int .i64) .str))))))], [.one (.pl (.list .str)), .one (.pl (.list (.list (.prod (.int .i64) (.prod (.int .i64) (.prod (.int .i64) (.prod (.int .i64) (.prod (.int .i64) .str)))))))), .one (.sl 0), .one (.sl 1), .one (.sl 2), .one (.pl (.int .i64)), .one (.pl (.int .i64))]⟩, [6], [(.norm, [7], ⟨[(true, .gone), (true, .gone), (true, .arr (.prod (.int .i64) (.prod (.int .i64) (.prod (.int .i64) (.prod (.int .i64) (.prod (.int .i64) .str)))))), (true, .arr (.prod (.int .i64) (.prod (.int .i64) (.prod (.int .i64) (.prod (.int .i64) (.prod (.int .i64) .str))))))], [.one (.sl 3)]⟩)]⟩,
  ⟨[8, 12, 65, 66, 67], ⟨[(true, .arr (.int .i64)), (true, .arr (.int .i64))], [.one (.sl 0), .one (.sl 1), .one (.sl 1), .one (.pl (.int .i64)), .one (.pl (.int .i64))]⟩, [1, 2, 7, 8, 10, 12, 33, 34, 35], [(.norm, [], ⟨[(true, .arr (.int .i64)), (true, .arr (.int .i64))], []⟩)]⟩,
  ⟨[0, 1, 5], ⟨[], [.one (.pl (.list (.prod (.int .i64) (.prod (.int .i64) (.prod (.int .i64) (.prod (.int .i64) (.prod (.int .i64) .str))))))), .one (.pl (.list (.prod (.int .i64) (.prod (.int .i64) (.prod (.int .i64) (.prod (.int .i64) (.prod (.int .i64) .str))))))), .one (.pl (.int .i64))]⟩, [], [(.ret, [4], ⟨[], [.one (.pl .bool)]⟩), (.norm, [], ⟨[], []⟩)]⟩,
  noBlk,
  ⟨[3, 4, 12, 13, 14], ⟨[(false, .arr .str), (true, .map .str .bool false), (true, .arr (.prod (.int .i64) (.prod (.int .i64) (.prod (.int .i64) (.prod (.int .i64) (.prod (.int .i64) .str))))))], [.one (.sl 0), .one (.mp 1), .one (.sl 2), .one (.pl (.int .i64)), .one (.pl (.int .i64))]⟩, [2], [(.norm, [3], ⟨[(true, .gone), (true, .map .str .bool false), (true, .arr (.prod (.int .i64) (.prod (.int .i64) (.prod (.int .i64) (.prod (.int .i64) (.prod (.int .i64) .str)))))), (true, .arr .str)], [.one (.sl 3)]⟩)]⟩,
  ⟨[0, 1, 5], ⟨[], [.one (.pl (.list .str)), .one (.pl (.list .str)), .one (.pl (.int .i64))]⟩, [], [(.ret, [4], ⟨[], [.one (.pl .bool)]⟩), (.norm, [], ⟨[], []⟩)]⟩,
  ⟨[0, 5], ⟨[], [.one (.pl (.list (.prod (.int .i64) (.prod (.int .i64) (.prod (.int .i64) (.prod (.int .i64) (.prod (.int .i64) .str))))))), .one (.pl (.int .i64))]⟩, [0, 1], [(.ret, [4], ⟨[], [.one (.pl .bool)]⟩), (.norm, [], ⟨[], []⟩)]⟩,
  ⟨[0, 1, 5], ⟨[], [.one (.pl (.list (.int .i64))), .one (.pl (.list (.int .i64))), .one (.pl (.int .i64))]⟩, [], [(.ret, [4], ⟨[], [.one (.pl .bool)]⟩), (.norm, [], ⟨[], []⟩)]⟩,
  ⟨[0, 3, 4], ⟨[(true, .arr (.int .i64))], [.one (.pl (.list (.prod (.int .i64) (.prod (.int .i64) (.prod (.int .i64) (.prod (.int .i64) (.prod (.int .i64) .str))))))), .one (.sl 0), .one (.pl (.int .i64))]⟩, [0, 3], [(.ret, [2], ⟨[(true, .arr (.int .i64))], [.one (.pl .bool)]⟩), (.norm, [], ⟨[(true, .arr (.int .i64))], []⟩)]⟩,
  ⟨[3, 4, 5, 6], ⟨[(true, .arr (.int .i64)), (true, .arr (.int .i64))], [.one (.sl 0), .one (.pl (.int .i64)), .one (.sl 1), .one (.pl (.int .i64))]⟩, [0, 3, 4], [(.ret, [2], ⟨[(true, .arr (.int .i64)), (true, .arr (.int .i64))], [.one (.pl .bool)]⟩), (.norm, [], ⟨[(true, .arr (.int .i64)), (true, .arr (.int .i64))], []⟩)]⟩,
  ⟨[0, 5, 6, 7], ⟨[(true, .box [.pl (.prod (.int .i64) (.prod (.int .i64) (.prod (.int .i64) (.prod (.int .i64) (.prod (.int .i64) .str)))))]), (true, .arr (.int .i64))], [.one (.pl (.list (.prod (.int .i64) (.prod (.int .i64) (.prod (.int .i64) (.prod (.int .i64) (.prod (.int .i64) .str))))))), .one (.ptr 0 0), .one (.sl 1), .one (.pl (.int .i64))]⟩, [], [(.ret, [4], ⟨[(true, .box [.pl (.prod (.int .i64) (.prod (.int .i64) (.prod (.int .i64) (.prod (.int .i64) (.prod (.int .i64) .str)))))]), (true, .arr (.int .i64))], [.one (.pl .bool)]⟩), (.norm, [], ⟨[(true, .box [.pl (.prod (.int .i64) (.prod (.int .i64) (.prod (.int .i64) (.prod (.int .i64) (.prod (.int .i64) .str)))))]), (true, .arr (.int .i64))], []⟩)]⟩,
  ⟨[0, 3, 7], ⟨[(true, .arr (.int .i64))], [.one (.pl (.list (.prod (.int .i64) (.prod (.int .i64) (.prod (.int .i64) (.prod (.int .i64) (.prod (.int .i64) .str))))))), .one (.sl 0), .one (.pl (.int .i64))]⟩, [0], [(.ret, [2], ⟨[(true, .arr (.int .i64))], [.one (.pl .bool)]⟩), (.norm, [], ⟨[(true, .arr (.int .i64))], []⟩)]⟩,
  noBlk,
  noBlk,
  noBlk,
  noBlk,
  noBlk,
  noBlk,
  ⟨[0, 3, 4], ⟨[(true, .arr (.int .i64))], [.one (.pl (.list (.prod (.int .i64) (.prod (.int .i64) (.prod (.int .i64) (.prod (.int .i64) (.prod (.int .i64) .str))))))), .one (.sl 0), .one (.pl (.int .i64))]⟩, [0, 2, 3], [(.norm, [], ⟨[(true, .arr (.int .i64))], []⟩)]⟩,
  ⟨[3, 4, 5, 6], ⟨[(true, .arr (.int .i64)), (true, .arr (.int .i64))], [.one (.sl 0), .one (.pl (.int .i64)), .one (.sl 1), .one (.pl (.int .i64))]⟩, [0, 3, 4], [(.norm, [], ⟨[(true, .arr (.int .i64)), (true, .arr (.int .i64))], []⟩)]⟩,
  noBlk,
  ⟨[0, 2, 7, 8, 9], ⟨[(false, .arr (.prod (.int .i64) (.prod (.int .i64) (.prod (.int .i64) (.prod (.int .i64) (.prod (.int .i64) .str)))))), (true, .arr (.int .i64)), (false, .arr (.int .i64))], [.one (.pl (.list (.prod (.int .i64) (.prod (.int .i64) (.prod (.int .i64) (.prod (.int .i64) (.prod (.int .i64) .str))))))), .one (.sl 0), .one (.sl 1), .one (.sl 2), .one (.pl (.int .i64))]⟩, [0, 1, 6], [(.norm, [2, 8], ⟨[(true, .gone), (true, .arr (.int .i64)), (true, .gone), (true, .arr (.prod (.int .i64) (.prod (.int .i64) (.prod (.int .i64) (.prod (.int .i64) (.prod (.int .i64) .str)))))), (true, .arr (.int .i64))], [.one (.sl 3), .one (.sl 4)]⟩)]⟩,
  noBlk,
  ⟨[0, 1, 5], ⟨[(true, .arr .str)], [.one (.sl 0), .one (.pl .str), .one (.pl (.int .i64))]⟩, [], [(.ret, [4], ⟨[(true, .arr .str)], [.one (.pl .bool)]⟩), (.norm, [], ⟨[(true, .arr .str)], []⟩)]⟩,
  ⟨[0, 3, 4], ⟨[(true, .arr (.prod (.int .i64) (.prod (.int .i64) (.prod (.int .i64) (.prod (.int .i64) (.prod (.int .i64) .str)))))), (false, .arr .str)], [.one (.sl 0), .one (.sl 1), .one (.pl (.int .i64))]⟩, [2], [(.norm, [3], ⟨[(true, .arr (.prod (.int .i64) (.prod (.int .i64) (.prod (.int .i64) (.prod (.int .i64) (.prod (.int .i64) .str)))))), (true, .gone), (true, .arr .str)], [.one (.sl 2)]⟩)]⟩,
  noBlk,
  ⟨[1, 5, 6], ⟨[(false, .arr (.list (.prod (.int .i64) (.prod (.int .i64) (.prod (.int .i64) (.prod (.int .i64) (.prod (.int .i64) .str)))))))], [.one (.pl (.list (.list (.prod (.int .i64) (.prod (.int .i64) (.prod (.int .i64) (.prod (.int .i64) (.prod (.int .i64) .str)))))))), .one (.sl 0), .one (.pl (.int .i64))]⟩, [1, 2], [(.ret, [4], ⟨[(true, .gone)], [.one (.pl .bool)]⟩), (.norm, [5], ⟨[(true, .gone), (true, .arr (.list (.prod (.int .i64) (.prod (.int .i64) (.prod (.int .i64) (.prod (.int .i64) (.prod (.int .i64) .str)))))))], [.one (.sl 1)]⟩)]⟩,
  ⟨[1, 5, 8], ⟨[], [.one (.pl (.list (.list (.prod (.int .i64) (.prod (.int .i64) (.prod (.int .i64) (.prod (.int .i64) (.prod (.int .i64) .str)))))))), .one (.pl (.list (.list (.prod (.int .i64) (.prod (.int .i64) (.prod (.int .i64) (.prod (.int .i64) (.prod (.int .i64) .str)))))))), .one (.pl (.int .i64))]⟩, [1, 2, 7], [(.ret, [4], ⟨[], [.one (.pl .bool)]⟩), (.norm, [], ⟨[], []⟩)]⟩,
  noBlk,
  noBlk,
  ⟨[0, 1, 5, 6], ⟨[(false, .arr (.prod (.int .i64) (.prod (.int .i64) (.prod (.int .i64) (.prod (.int .i64) (.prod (.int .i64) .str))))))], [.one (.sl 0), .one (.pl (.list (.prod (.int .i64) (.prod (.int .i64) (.prod (.int .i64) (.prod (.int .i64) (.prod (.int .i64) .str))))))), .one (.pl (.int .i64)), .one (.pl (.int .i64))]⟩, [4], [(.norm, [0], ⟨[(true, .gone), (true, .arr (.prod (.int .i64) (.prod (.int .i64) (.prod (.int .i64) (.prod (.int .i64) (.prod (.int .i64) .str))))))], [.one (.sl 1)]⟩)]⟩,
  ⟨[0, 3, 11, 12, 13, 14], ⟨[(false, .arr (.prod (.int .i64) (.prod (.int .i64) (.prod (.int .i64) (.prod (.int .i64) (.prod (.int .i64) .str)))))), (false, .arr (.int .i64))], [.one (.pl (.int .i64)), .one (.pl (.list (.list (.prod (.int .i64) (.prod (.int .i64) (.prod (.int .i64) (.prod (.int .i64) (.prod (.int .i64) .str)))))))), .one (.sl 0), .one (.sl 1), .one (.pl (.int .i64)), .one (.pl (.int .i64))]⟩, [0, 9], [(.ret, [8], ⟨[(true, .gone), (true, .gone), (true, .arr (.prod (.int .i64) (.prod (.int .i64) (.prod (.int .i64) (.prod (.int .i64) (.prod (.int .i64) .str))))))], [.one (.sl 2)]⟩), (.norm, [11, 12, 13], ⟨[(true, .gone), (true, .gone), (true, .arr (.prod (.int .i64) (.prod (.int .i64) (.prod (.int .i64) (.prod (.int .i64) (.prod (.int .i64) .str)))))), (true, .arr (.int .i64))], [.one (.sl 2), .one (.sl 3), .one (.pl (.int .i64))]⟩)]⟩,
  ⟨[2, 7], ⟨[], [.one (.pl (.list (.list (.prod (.int .i64) (.prod (.int .i64) (.prod (.int .i64) (.prod (.int .i64) (.prod (.int .i64) .str)))))))), .one (.pl (.int .i64))]⟩, [0, 1, 2], [(.ret, [6], ⟨[], [.one (.pl .bool)]⟩), (.norm, [], ⟨[], []⟩)]⟩,
  noBlk,
  noBlk,
  ⟨[0, 1, 5], ⟨[], [.one (.pl (.list .str)), .one (.pl .str), .one (.pl (.int .i64))]⟩, [], [(.ret, [4], ⟨[], [.one (.pl (.int .i64))]⟩), (.norm, [], ⟨[], []⟩)]⟩,
  noBlk,
  noBlk,
  noBlk,
  noBlk,
  noBlk,
  noBlk,
  ⟨[2, 7], ⟨[], [.one (.pl (.list (.list (.prod (.int .i64) (.prod (.int .i64) (.prod (.int .i64) (.prod (.int .i64) (.prod (.int .i64) .str)))))))), .one (.pl (.int .i64))]⟩, [0, 1, 2], [(.ret, [6], ⟨[(true, .arr (.prod (.int .i64) (.prod (.int .i64) (.prod (.int .i64) (.prod (.int .i64) (.prod (.int .i64) .str))))))], [.one (.sl 0)]⟩), (.norm, [], ⟨[], []⟩)]⟩,
  ⟨[0, 1, 2, 8, 9, 10], ⟨[(true, .arr (.prod (.int .i64) (.prod (.int .i64) (.prod (.int .i64) (.prod (.int .i64) (.prod (.int .i64) .str)))))), (false, .arr (.prod (.int .i64) (.prod (.int .i64) (.prod (.int .i64) (.prod (.int .i64) (.prod (.int .i64) .str)))))), (true, .arr (.int .i64))], [.one (.sl 0), .one (.pl (.list .str)), .one (.pl (.list (.list (.prod (.int .i64) (.prod (.int .i64) (.prod (.int .i64) (.prod (.int .i64) (.prod (.int .i64) .str)))))))), .one (.sl 1), .one (.sl 2), .one (.pl (.int .i64))]⟩, [6], [(.norm, [8], ⟨[(true, .arr (.prod (.int .i64) (.prod (.int .i64) (.prod (.int .i64) (.prod (.int .i64) (.prod (.int .i64) .str)))))), (true, .gone), (true, .arr (.int .i64)), (true, .arr (.prod (.int .i64) (.prod (.int .i64) (.prod (.int .i64) (.prod (.int .i64) (.prod (.int .i64) .str))))))], [.one (.sl 3)]⟩)]⟩,
  ⟨[0, 2, 8, 9, 10, 11], ⟨[(true, .arr (.prod (.int .i64) (.prod (.int .i64) (.prod (.int .i64) (.prod (.int .i64) (.prod (.int .i64) .str)))))), (true, .arr (.prod (.int .i64) (.prod (.int .i64) (.prod (.int .i64) (.prod (.int .i64) (.prod (.int .i64) .str)))))), (true, .arr (.int .i64))], [.one (.sl 0), .one (.pl (.list (.list (.prod (.int .i64) (.prod (.int .i64) (.prod (.int .i64) (.prod (.int .i64) (.prod (.int .i64) .str)))))))), .one (.sl 1), .one (.sl 2), .one (.pl (.int .i64)), .one (.pl (.int .i64))]⟩, [0, 1, 2, 9, 10], [(.norm, [8], ⟨[(true, .arr (.prod (.int .i64) (.prod (.int .i64) (.prod (.int .i64) (.prod (.int .i64) (.prod (.int .i64) .str)))))), (true, .gone), (true, .arr (.int .i64)), (true, .arr (.prod (.int .i64) (.prod (.int .i64) (.prod (.int .i64) (.prod (.int .i64) (.prod (.int .i64) .str))))))], [.one (.sl 3)]⟩)]⟩,
  ⟨[9, 12, 13, 14], ⟨[(true, .arr (.int .i64)), (true, .arr (.int .i64)), (false, .arr (.int .i64))], [.one (.sl 0), .one (.sl 1), .one (.sl 2), .one (.pl (.int .i64))]⟩, [0, 8, 9, 10], [(.norm, [13], ⟨[(true, .arr (.int .i64)), (true, .arr (.int .i64)), (true, .gone), (true, .arr (.int .i64))], [.one (.sl 3)]⟩)]⟩,
  noBlk,
  ⟨[3, 4, 5], ⟨[(true, .arr .str), (false, .arr (.list (.prod (.int .i64) (.prod (.int .i64) (.prod (.int .i64) (.prod (.int .i64) (.prod (.int .i64) .str)))))))], [.one (.sl 0), .one (.sl 1), .one (.pl (.int .i64))]⟩, [0, 2, 3], [(.norm, [4], ⟨[(true, .arr .str), (true, .gone), (true, .arr (.list (.prod (.int .i64) (.prod (.int .i64) (.prod (.int .i64) (.prod (.int .i64) (.prod (.int .i64) .str)))))))], [.one (.sl 2)]⟩)]⟩,
  noBlk,
  ⟨[0, 1, 5, 6], ⟨[], [.one (.pl (.list .str)), .one (.pl .str), .one (.pl (.int .i64)), .one (.pl (.int .i64))]⟩, [4], [(.norm, [5], ⟨[], [.one (.pl (.int .i64))]⟩)]⟩,
  ⟨[0, 5, 6], ⟨[], [.one (.pl (.list (.prod (.int .i64) (.prod (.int .i64) (.prod (.int .i64) (.prod (.int .i64) (.prod (.int .i64) .str))))))), .one (.pl (.list .str)), .one (.pl (.int .i64))]⟩, [0, 1, 5], [(.ret, [4], ⟨[], [.one (.pl .bool)]⟩), (.norm, [], ⟨[], []⟩)]⟩,
  ⟨[1, 5, 8, 9], ⟨[], [.one (.pl (.list (.prod (.int .i64) (.prod (.int .i64) (.prod (.int .i64) (.prod (.int .i64) (.prod (.int .i64) .str))))))), .one (.pl (.list .str)), .one (.pl (.list .str)), .one (.pl (.int .i64))]⟩, [], [(.ret, [4], ⟨[], [.one (.pl .bool)]⟩), (.norm, [], ⟨[], []⟩)]⟩]
  lkL := [(0, [(0, 29)]), (3, [(0, 3)]), (5, [(0, 2)]), (7, [(0, 23), (2, 24)]), (8, [(0, 4), (2, 7)]), (11, [(0, 8)]), (13, [(0, 15), (2, 16)]), (15, [(0, 17)]), (18, [(0, 19)]), (19, [(0, 21)]), (20, [(0, 25)]), (21, [(0, 27)]), (22, [(0, 28)]), (24, [(0, 30)]), (25, [(0, 31), (2, 32), (4, 34)]), (28, [(0, 33)]), (29, [(0, 41), (2, 42)]), (31, [(0, 44)]), (33, [(0, 47)]), (35, [(0, 46)]), (36, [(0, 49), (2, 50)]), (38, [(0, 54)]), (40, [(0, 53)]), (42, [(0, 55)]), (43, [(0, 65), (2, 66), (4, 68)]), (44, [(0, 58)]), (47, [(0, 70)]), (48, [(0, 73), (2, 74)]), (49, [(0, 72)])]
  tkL := [(9, [(9, 5), (10, 6)]), (43, [(17, 67)])]
  dkL := [(0, [(6, ([], (.take 0 (.take 1 (.take 2 (.take 3 (.take 5 (.take 6 (.take 7 (.take 8 (.only 4 (.only 9 (.only 10 (.take 11 .done))))))))))))))]),
  (6, [(2, ([2], (.take 0 (.take 1 (.take 2 (.take 3 (.take 4 (.take 5 (.take 6 (.only 7 (.take 8 (.only 9 .done))))))))))))]),
  (7, [(10, ([7], (.take 0 (.take 1 (.take 2 (.take 3 (.take 4 (.take 5 (.take 6 (.take 7 (.take 8 (.take 9 (.take 10 (.only 11 (.only 12 (.take 13 .done))))))))))))))))]),
  (9, [(9, ([], (.take 0 (.take 1 (.take 2 (.take 3 (.take 4 (.take 5 (.take 6 (.take 7 (.alt 8 (.alt 9 (.only 10 (.only 11 .done)) (.only 10 (.only 9 (.only 11 .done)))) (.only 10 (.only 8 (.only 9 (.only 11 .done)))))))))))))))]),
  (13, [(9, ([3], (.take 0 (.take 1 (.take 2 (.take 3 (.take 4 (.take 6 (.take 7 (.take 8 (.alt 5 (.only 9 (.take 10 (.take 11 (.only 12 .done)))) (.only 9 (.only 5 (.take 10 (.take 11 (.only 12 .done))))))))))))))))]),
  (20, [(6, ([], (.take 0 (.take 1 (.take 2 (.take 3 (.take 4 (.take 5 (.take 6 (.take 7 (.take 8 .done)))))))))))]),
  (22, [(6, ([], (.take 0 (.take 1 (.take 2 (.take 3 (.take 4 (.take 5 (.take 6 (.take 7 (.take 8 .done)))))))))))]),
  (24, [(6, ([], (.take 0 (.take 1 (.take 2 (.take 3 (.take 4 (.take 5 (.take 6 (.take 7 (.take 8 .done)))))))))))]),
  (29, [(11, ([3], (.take 0 (.take 1 (.take 2 (.take 3 (.take 4 (.take 6 (.take 7 (.take 8 (.take 9 (.take 10 (.take 11 (.alt 5 (.only 12 (.take 13 (.take 14 (.take 15 (.only 16 .done))))) (.only 12 (.take 13 (.only 5 (.take 14 (.take 15 (.only 16 .done))))))))))))))))))))]),
  (36, [(14, ([], (.take 0 (.take 1 (.take 2 (.take 3 (.take 4 (.take 5 (.take 6 (.take 7 (.only 8 (.take 9 .done))))))))))))]),
  (48, [(18, ([], (.take 0 (.take 2 (.take 3 (.take 4 (.take 5 (.only 1 (.only 6 (.take 7 (.take 8 (.take 9 (.take 10 (.take 11 (.take 12 (.take 13 (.only 14 (.take 15 (.take 16 .done)))))))))))))))))))])]
  fnumL := [3, 11, 12, 27, 14, 42, 43, 29, 17, 35, 36, 51, 18, 37, 47, 53, 48, 21, 38, 49, 20, 24, 23, 15, 13, 16, 32, 33, 34, 19, 22, 39, 46, 25, 40, 41, 4, 26, 28, 44, 45, 52, 5, 30, 50, 6, 7, 8, 9, 31, 10]
  fnL := [Try.f3, Try.f11, Try.f12, Try.f27, Try.f14, Try.f42, Try.f43, Try.f29, Try.f17, Try.f35, Try.f36, Try.f51, Try.f18, Try.f37, Try.f47, Try.f53, Try.f48, Try.f21, Try.f38, Try.f49, Try.f20, Try.f24, Try.f23, Try.f15, Try.f13, Try.f16, Try.f32, Try.f33, Try.f34, Try.f19, Try.f22, Try.f39, Try.f46, Try.f25, Try.f40, Try.f41, Try.f4, Try.f26, Try.f28, Try.f44, Try.f45, Try.f52, Try.f5, Try.f30, Try.f50, Try.f6, Try.f7, Try.f8, Try.f9, Try.f31, Try.f10]
  placeL := [(0, []), (0, []), (5, [true, true, false, true]), (3, [true, true, true, true, true, false, true]), (8, [true, true, true, false, true]), (9, [true, true, true]), (9, [true, true, true, true]), (8, [true, true, true, false, true, false, false, true, true, false, false, true, true, true]), (11, [true, false, true]), (0, []), (0, []), (0, []), (0, []), (0, []), (0, []), (13, [true, true, false, true]), (13, [true, true, false, true, false, false, true, true, false, false, true, false, true]), (15, [true, false, true]), (0, []), (18, [true, true, false, true]), (0, []), (19, [true, false, true]), (0, []), (7, [true, true, true, true, false, true]), (7, [true, true, true, true, false, true, false, false, true, true, false, false, true, false, true, true, true, true, false, true]), (20, [true, true, false, true]), (0, []), (21, [true, true, true, false, true]), (22, [true, true, false, true]), (0, [true, true, false, true]), (24, [true, true, false, true]), (25, [true, true, true, false, true]), (25, [true, true, true, false, true, false, false, true, false, false, true, true, false, true]), (28, [true, true, true, false, true]), (25, [true, true, true, true, false, true]), (0, []), (0, []), (0, []), (0, []), (0, []), (0, []), (29, [true, true, false, true]), (29, [true, true, false, true, false, false, true, false, false, true, true, true]), (0, []), (31, [true, true, true, false, true]), (0, []), (35, [true, false, true]), (33, [true, true, true, false, true]), (0, []), (36, [true, true, true, false, true]), (36, [true, true, true, true, true, false, true]), (0, []), (0, []), (40, [true, true, false, true]), (38, [true, true, true, true, true, true, true, false, true]), (42, [true, true, false, true]), (0, []), (0, []), (44, [true, false, true]), (0, []), (0, []), (0, []), (0, []), (0, []), (0, []), (43, [true, true, false, true]), (43, [true, true, true, true, true, true, false, true]), (43, [true, true, true, true, true, true, false, true, false, false, true, false, false, true, true]), (43, [true, true, true, true, true, true, false, true, false, false, true, false, false, true, true, false, true, true, true, true, false, true]), (0, []), (47, [true, true, true, true, false, true]), (0, []), (49, [true, true, false, true]), (48, [true, true, true, false, true]), (48, [true, true, true, true, true, true, true, true, false, true])] }
noncomputable def T : Tbl := tabs.tbl fun _ _ => none

noncomputable def c0 (rf : T.RF) (d1 : List (Int × Int × Int × Int × Int × List UInt8)) (d2 : Int) : Option Bool := rf 0 (d1, d2)
noncomputable def c1 (rf : T.RF) (d1 : List (Int × Int × Int × Int × Int × List UInt8)) (d2 : Int) : Option Bool := rf 1 (d1, d2)
noncomputable def c2 (rf : T.RF) : Option Bool := rf 2 ()
noncomputable def c3 (rf : T.RF) (d1 : Int) (d2 : Int) (d3 : List UInt8) (d4 : List (List (Int × Int × Int × Int × Int × List UInt8))) : Option (List (Int × Int × Int × Int × Int × List UInt8)) := rf 3 (d1, d2, d3, d4)
noncomputable def c4 (rf : T.RF) (d1 : Int × Int × Int × Int × Int × List UInt8) : Option (List Int) := rf 4 d1
noncomputable def c5 (rf : T.RF) (d1 : List (Int × Int × Int × Int × Int × List UInt8)) (d2 : List (Int × Int × Int × Int × Int × List UInt8)) : Option (List (Int × Int × Int × Int × Int × List UInt8)) := rf 5 (d1, d2)
noncomputable def c6 (rf : T.RF) (d1 : Int × Int × Int × Int × Int × List UInt8) (d2 : List Int) : Option (Int × Int × Int × Int × Int × List UInt8) := rf 6 (d1, d2)
noncomputable def c7 (rf : T.RF) (d1 : List (Int × Int × Int × Int × Int × List UInt8)) (d2 : List (List UInt8)) (d3 : List (List (Int × Int × Int × Int × Int × List UInt8))) : Option (List (Int × Int × Int × Int × Int × List UInt8)) := rf 7 (d1, d2, d3)
noncomputable def c8 (rf : T.RF) (d1 : List (Int × Int × Int × Int × Int × List UInt8)) : Option Bool := rf 8 d1
noncomputable def c9 (rf : T.RF) (d1 : Int × Int × Int × Int × Int × List UInt8) : Option Bool := rf 9 d1
noncomputable def c10 (rf : T.RF) (d1 : List Bool) (d2 : Bool) : Option Bool := rf 10 (d1, d2)
noncomputable def c11 (rf : T.RF) (d1 : List Bool) (d2 : Bool) : Option Int := rf 11 (d1, d2)
noncomputable def c12 (rf : T.RF) (d1 : List (Int × Int × Int × Int × Int × List UInt8)) : Option Int := rf 12 d1
noncomputable def c13 (rf : T.RF) (d1 : List (Int × Int × Int × Int × Int × List UInt8)) : Option (List Int) := rf 13 d1
noncomputable def c14 (rf : T.RF) (d1 : List (List (Int × Int × Int × Int × Int × List UInt8))) : Option Bool := rf 14 d1
noncomputable def c15 (rf : T.RF) (d1 : List (List (Int × Int × Int × Int × Int × List UInt8))) : Option Int := rf 15 d1
noncomputable def c16 (rf : T.RF) (d1 : List (Int × Int × Int × Int × Int × List UInt8)) : Option Bool := rf 16 d1
noncomputable def c17 (rf : T.RF) (d1 : List (Int × Int × Int × Int × Int × List UInt8)) (d2 : Int) : Option (List (Int × Int × Int × Int × Int × List UInt8)) := rf 17 (d1, d2)
noncomputable def c18 (rf : T.RF) (d1 : List (Int × Int × Int × Int × Int × List UInt8)) (d2 : List (Int × Int × Int × Int × Int × List UInt8)) (d3 : Int) : Option (List (Int × Int × Int × Int × Int × List UInt8)) := rf 18 (d1, d2, d3)
noncomputable def c19 (rf : T.RF) (d1 : List (List UInt8)) (d2 : List UInt8) : Option Int := rf 19 (d1, d2)
noncomputable def c20 (rf : T.RF) (d1 : List (Int × Int × Int × Int × Int × List UInt8)) (d2 : List (Int × Int × Int × Int × Int × List UInt8)) : Option Bool := rf 20 (d1, d2)
noncomputable def c21 (rf : T.RF) (d1 : List (Int × Int × Int × Int × Int × List UInt8)) : Option (List (List UInt8)) := rf 21 d1
noncomputable def c22 (rf : T.RF) (d1 : List (List UInt8)) (d2 : List (List UInt8)) : Option Bool := rf 22 (d1, d2)
noncomputable def c23 (rf : T.RF) (d1 : Int × Int × Int × Int × Int × List UInt8) : Option (List Int) := rf 23 d1
noncomputable def c24 (rf : T.RF) (d1 : List Int) (d2 : List Int) : Option Bool := rf 24 (d1, d2)
noncomputable def c25 (rf : T.RF) (d1 : List (Int × Int × Int × Int × Int × List UInt8)) : Option Bool := rf 25 d1
noncomputable def c26 (rf : T.RF) (d1 : Int × Int × Int × Int × Int × List UInt8) : Option Bool := rf 26 d1
noncomputable def c27 (rf : T.RF) (d1 : Int × Int × Int × Int × Int × List UInt8) : Option Bool := rf 27 d1
noncomputable def c28 (rf : T.RF) (d1 : List (Int × Int × Int × Int × Int × List UInt8)) (d2 : Int) : Option Bool := rf 28 (d1, d2)
noncomputable def c29 (rf : T.RF) (d1 : List (Int × Int × Int × Int × Int × List UInt8)) : Option Int := rf 29 d1
noncomputable def c30 (rf : T.RF) (d1 : List (Int × Int × Int × Int × Int × List UInt8)) (d2 : Int) : Option (List (Int × Int × Int × Int × Int × List UInt8)) := rf 30 (d1, d2)
noncomputable def c31 (rf : T.RF) (d1 : List (Int × Int × Int × Int × Int × List UInt8)) (d2 : List (Int × Int × Int × Int × Int × List UInt8)) (d3 : Int) : Option (List (Int × Int × Int × Int × Int × List UInt8)) := rf 31 (d1, d2, d3)
noncomputable def c32 (rf : T.RF) (d1 : Int × Int × Int × Int × Int × List UInt8) (d2 : List Int) : Option (Int × Int × Int × Int × Int × List UInt8) := rf 32 (d1, d2)
noncomputable def c33 (rf : T.RF) (d1 : List (Int × Int × Int × Int × Int × List UInt8)) : Option (List (List UInt8)) := rf 33 d1
noncomputable def c34 (rf : T.RF) (d1 : List (Int × Int × Int × Int × Int × List UInt8)) : Option (List (Int × Int × Int × Int × Int × List UInt8)) := rf 34 d1
noncomputable def c35 (rf : T.RF) (d1 : List (List UInt8)) (d2 : List UInt8) : Option (List (List UInt8) × Bool) := rf 35 (d1, d2)
noncomputable def c36 (rf : T.RF) (d1 : Int × Int × Int × Int × Int × List UInt8) (d2 : List (List (Int × Int × Int × Int × Int × List UInt8))) : Option Bool := rf 36 (d1, d2)
noncomputable def c37 (rf : T.RF) (d1 : List (Int × Int × Int × Int × Int × List UInt8)) : Option (List (Int × Int × Int × Int × Int × List UInt8)) := rf 37 d1
noncomputable def c38 (rf : T.RF) (d1 : Int) (d2 : Int) (d3 : List UInt8) (d4 : List (List (Int × Int × Int × Int × Int × List UInt8))) : Option (List (Int × Int × Int × Int × Int × List UInt8)) := rf 38 (d1, d2, d3, d4)
noncomputable def c39 (rf : T.RF) (d1 : Int) (d2 : Int) (d3 : List UInt8) : Option (Int × Int × Int × Int × Int × List UInt8) := rf 39 (d1, d2, d3)
noncomputable def c40 (rf : T.RF) (d1 : List (Int × Int × Int × Int × Int × List UInt8)) (d2 : List (Int × Int × Int × Int × Int × List UInt8)) : Option (List (Int × Int × Int × Int × Int × List UInt8)) := rf 40 (d1, d2)
noncomputable def c41 (rf : T.RF) (d1 : Int × Int × Int × Int × Int × List UInt8) (d2 : Int) : Option (Int × Int × Int × Int × Int × List UInt8) := rf 41 (d1, d2)
noncomputable def c42 (rf : T.RF) (d1 : List (Int × Int × Int × Int × Int × List UInt8)) (d2 : List (List UInt8)) (d3 : List (List (Int × Int × Int × Int × Int × List UInt8))) : Option Bool := rf 42 (d1, d2, d3)
noncomputable def c43 (rf : T.RF) (d1 : List (Int × Int × Int × Int × Int × List UInt8)) (d2 : List (List UInt8)) (d3 : List (List (Int × Int × Int × Int × Int × List UInt8))) : Option (List (Int × Int × Int × Int × Int × List UInt8)) := rf 43 (d1, d2, d3)
noncomputable def c44 (rf : T.RF) (d1 : List (List UInt8)) (d2 : List UInt8) : Option Int := rf 44 (d1, d2)
noncomputable def c45 (rf : T.RF) (d1 : List (Int × Int × Int × Int × Int × List UInt8)) : Option Bool := rf 45 d1
noncomputable def c46 (rf : T.RF) (d1 : List (Int × Int × Int × Int × Int × List UInt8)) (d2 : List (Int × Int × Int × Int × Int × List UInt8)) : Option Bool := rf 46 (d1, d2)
noncomputable def c47 (rf : T.RF) (d1 : List (Int × Int × Int × Int × Int × List UInt8)) : Option Bool := rf 47 d1
noncomputable def c48 (rf : T.RF) (d1 : List (Int × Int × Int × Int × Int × List UInt8)) (d2 : List (Int × Int × Int × Int × Int × List UInt8)) : Option Bool := rf 48 (d1, d2)
noncomputable def c49 (rf : T.RF) (d1 : List (List UInt8)) (d2 : List UInt8) : Option Int := rf 49 (d1, d2)
noncomputable def c50 (rf : T.RF) (d1 : List (Int × Int × Int × Int × Int × List UInt8)) (d2 : List (Int × Int × Int × Int × Int × List UInt8)) (d3 : List UInt8) : Option Bool := rf 50 (d1, d2, d3)
noncomputable def k2 (rb : T.RB) (d1 : List (Int × Int × Int × Int × Int × List UInt8)) (d2 : Int) (d3 : List (Int × Int × Int × Int × Int × List UInt8)) (d4 : Int) (d5 : Int) : Option (List (Int × Int × Int × Int × Int × List UInt8)) := rb 2 (d1, d2, d3, d4, d5)
noncomputable def k3 (rb : T.RB) (d1 : List (Int × Int × Int × Int × Int × List UInt8)) (d2 : List Int) (d3 : Int) (d4 : List (List (Int × Int × Int × Int × Int × List UInt8))) (d5 : Int) (d6 : Int) : Option ((List (Int × Int × Int × Int × Int × List UInt8)) ⊕ (List (Int × Int × Int × Int × Int × List UInt8) × List Int)) := rb 3 (d1, d2, d3, d4, d5, d6)
noncomputable def k4 (rb : T.RB) (d1 : List Bool) (d2 : List (Int × Int × Int × Int × Int × List UInt8)) (d3 : List (Int × Int × Int × Int × Int × List UInt8)) (d4 : Int) (d5 : Int) : Option ((List Bool × Bool) ⊕ (List Bool)) := rb 4 (d1, d2, d3, d4, d5)
noncomputable def k5 (rb : T.RB) (d1 : Int × Int × Int × Int × Int × List UInt8) (d2 : Int) : Option ((Int × Int × Int × Int × Int × List UInt8) × Bool) := rb 5 (d1, d2)
noncomputable def k6 (rb : T.RB) (d1 : Int × Int × Int × Int × Int × List UInt8) (d2 : Int × Int × Int × Int × Int × List UInt8) (d3 : Int) : Option ((Int × Int × Int × Int × Int × List UInt8) × (Int × Int × Int × Int × Int × List UInt8) × Bool) := rb 6 (d1, d2, d3)
noncomputable def k7 (rb : T.RB) (d1 : List Bool) (d2 : Int × Int × Int × Int × Int × List UInt8) (d3 : List Int) (d4 : List (Int × Int × Int × Int × Int × List UInt8)) (d5 : Int) (d6 : Int) (d7 : Int) : Option ((List Bool × (Int × Int × Int × Int × Int × List UInt8) × List Int × Bool) ⊕ (List Bool × (Int × Int × Int × Int × Int × List UInt8) × List Int)) := rb 7 (d1, d2, d3, d4, d5, d6, d7)
noncomputable def k8 (rb : T.RB) (d1 : List Bool) (d2 : Bool) (d3 : Int) (d4 : Int) : Option (Int ⊕ Unit) := rb 8 (d1, d2, d3, d4)
noncomputable def k15 (rb : T.RB) (d1 : List Int) (d2 : List (Int × Int × Int × Int × Int × List UInt8)) (d3 : Int) (d4 : Int) : Option (List Int) := rb 15 (d1, d2, d3, d4)
noncomputable def k16 (rb : T.RB) (d1 : List Int) (d2 : List Int) (d3 : Int) (d4 : Int) (d5 : Int) : Option (List Int × List Int) := rb 16 (d1, d2, d3, d4, d5)
noncomputable def k17 (rb : T.RB) (d1 : List (List (Int × Int × Int × Int × Int × List UInt8))) (d2 : Int) (d3 : Int) : Option (Int ⊕ Unit) := rb 17 (d1, d2, d3)
noncomputable def k19 (rb : T.RB) (d1 : List (Int × Int × Int × Int × Int × List UInt8)) (d2 : List Int) (d3 : List (Int × Int × Int × Int × Int × List UInt8)) (d4 : Int) (d5 : Int) : Option (List Int × List (Int × Int × Int × Int × Int × List UInt8)) := rb 19 (d1, d2, d3, d4, d5)
noncomputable def k21 (rb : T.RB) (d1 : List (List UInt8)) (d2 : List UInt8) (d3 : Int) (d4 : Int) : Option (Int ⊕ Unit) := rb 21 (d1, d2, d3, d4)
noncomputable def k23 (rb : T.RB) (d1 : List (Int × Int × Int × Int × Int × List UInt8)) (d2 : List Int) (d3 : List (Int × Int × Int × Int × Int × List UInt8)) (d4 : List (List UInt8)) (d5 : List (List (Int × Int × Int × Int × Int × List UInt8))) (d6 : Int) (d7 : Int) : Option (List (Int × Int × Int × Int × Int × List UInt8) × List (Int × Int × Int × Int × Int × List UInt8)) := rb 23 (d1, d2, d3, d4, d5, d6, d7)
noncomputable def k24 (rb : T.RB) (d1 : List Int) (d2 : List Int) (d3 : Int) (d4 : Int) : Option (List Int × List Int) := rb 24 (d1, d2, d3, d4)
noncomputable def k25 (rb : T.RB) (d1 : List (Int × Int × Int × Int × Int × List UInt8)) (d2 : List (Int × Int × Int × Int × Int × List UInt8)) (d3 : Int) : Option (Bool ⊕ Unit) := rb 25 (d1, d2, d3)
noncomputable def k27 (rb : T.RB) (d1 : List (List UInt8)) (d2 : List (List UInt8 × Bool)) (d3 : List (Int × Int × Int × Int × Int × List UInt8)) (d4 : Int) (d5 : Int) : Option (List (List UInt8 × Bool) × List (Int × Int × Int × Int × Int × List UInt8) × List (List UInt8)) := rb 27 (d1, d2, d3, d4, d5)
noncomputable def k28 (rb : T.RB) (d1 : List (List UInt8)) (d2 : List (List UInt8)) (d3 : Int) : Option (Bool ⊕ Unit) := rb 28 (d1, d2, d3)
noncomputable def k29 (rb : T.RB) (d1 : List (Int × Int × Int × Int × Int × List UInt8)) (d2 : Int) : Option (Bool ⊕ Unit) := rb 29 (d1, d2)
noncomputable def k30 (rb : T.RB) (d1 : List Int) (d2 : List Int) (d3 : Int) : Option (Bool ⊕ Unit) := rb 30 (d1, d2, d3)
noncomputable def k31 (rb : T.RB) (d1 : List Int) (d2 : List (Int × Int × Int × Int × Int × List UInt8)) (d3 : Int) : Option ((List Int × Bool) ⊕ (List Int)) := rb 31 (d1, d2, d3)
noncomputable def k32 (rb : T.RB) (d1 : List Int) (d2 : List Int) (d3 : Int) (d4 : Int) : Option ((List Int × List Int × Bool) ⊕ (List Int × List Int)) := rb 32 (d1, d2, d3, d4)
noncomputable def k33 (rb : T.RB) (d1 : Int × Int × Int × Int × Int × List UInt8) (d2 : List Int) (d3 : List (Int × Int × Int × Int × Int × List UInt8)) (d4 : Int) : Option (((Int × Int × Int × Int × Int × List UInt8) × List Int × Bool) ⊕ ((Int × Int × Int × Int × Int × List UInt8) × List Int)) := rb 33 (d1, d2, d3, d4)
noncomputable def k34 (rb : T.RB) (d1 : List Int) (d2 : List (Int × Int × Int × Int × Int × List UInt8)) (d3 : Int) : Option ((List Int × Bool) ⊕ (List Int)) := rb 34 (d1, d2, d3)
noncomputable def k41 (rb : T.RB) (d1 : List Int) (d2 : List (Int × Int × Int × Int × Int × List UInt8)) (d3 : Int) : Option (List Int) := rb 41 (d1, d2, d3)
noncomputable def k42 (rb : T.RB) (d1 : List Int) (d2 : List Int) (d3 : Int) (d4 : Int) : Option (List Int × List Int) := rb 42 (d1, d2, d3, d4)
noncomputable def k44 (rb : T.RB) (d1 : List (Int × Int × Int × Int × Int × List UInt8)) (d2 : List Int) (d3 : List Int) (d4 : List (Int × Int × Int × Int × Int × List UInt8)) (d5 : Int) : Option (List Int × List (Int × Int × Int × Int × Int × List UInt8) × List Int) := rb 44 (d1, d2, d3, d4, d5)
noncomputable def k46 (rb : T.RB) (d1 : List (List UInt8)) (d2 : List UInt8) (d3 : Int) : Option ((List (List UInt8) × Bool) ⊕ (List (List UInt8))) := rb 46 (d1, d2, d3)
noncomputable def k47 (rb : T.RB) (d1 : List (Int × Int × Int × Int × Int × List UInt8)) (d2 : List (List UInt8)) (d3 : Int) : Option (List (Int × Int × Int × Int × Int × List UInt8) × List (List UInt8)) := rb 47 (d1, d2, d3)
noncomputable def k49 (rb : T.RB) (d1 : List (List (Int × Int × Int × Int × Int × List UInt8))) (d2 : List (List (Int × Int × Int × Int × Int × List UInt8))) (d3 : Int) : Option (Bool ⊕ (List (List (Int × Int × Int × Int × Int × List UInt8)))) := rb 49 (d1, d2, d3)
noncomputable def k50 (rb : T.RB) (d1 : List (List (Int × Int × Int × Int × Int × List UInt8))) (d2 : List (List (Int × Int × Int × Int × Int × List UInt8))) (d3 : Int) : Option (Bool ⊕ Unit) := rb 50 (d1, d2, d3)
noncomputable def k53 (rb : T.RB) (d1 : List (Int × Int × Int × Int × Int × List UInt8)) (d2 : List (Int × Int × Int × Int × Int × List UInt8)) (d3 : Int) (d4 : Int) : Option (List (Int × Int × Int × Int × Int × List UInt8)) := rb 53 (d1, d2, d3, d4)
noncomputable def k54 (rb : T.RB) (d1 : List (Int × Int × Int × Int × Int × List UInt8)) (d2 : List Int) (d3 : Int) (d4 : List (List (Int × Int × Int × Int × Int × List UInt8))) (d5 : Int) (d6 : Int) : Option ((List (Int × Int × Int × Int × Int × List UInt8)) ⊕ (List (Int × Int × Int × Int × Int × List UInt8) × List Int × Int)) := rb 54 (d1, d2, d3, d4, d5, d6)
noncomputable def k55 (rb : T.RB) (d1 : List (List (Int × Int × Int × Int × Int × List UInt8))) (d2 : Int) : Option (Bool ⊕ Unit) := rb 55 (d1, d2)
noncomputable def k58 (rb : T.RB) (d1 : List (List UInt8)) (d2 : List UInt8) (d3 : Int) : Option (Int ⊕ Unit) := rb 58 (d1, d2, d3)
noncomputable def k65 (rb : T.RB) (d1 : List (List (Int × Int × Int × Int × Int × List UInt8))) (d2 : Int) : Option ((List (Int × Int × Int × Int × Int × List UInt8)) ⊕ Unit) := rb 65 (d1, d2)
noncomputable def k66 (rb : T.RB) (d1 : List (Int × Int × Int × Int × Int × List UInt8)) (d2 : List (Int × Int × Int × Int × Int × List UInt8)) (d3 : List Int) (d4 : List (List UInt8)) (d5 : List (List (Int × Int × Int × Int × Int × List UInt8))) (d6 : Int) : Option (List (Int × Int × Int × Int × Int × List UInt8) × List Int × List (Int × Int × Int × Int × Int × List UInt8)) := rb 66 (d1, d2, d3, d4, d5, d6)
noncomputable def k67 (rb : T.RB) (d1 : List (Int × Int × Int × Int × Int × List UInt8)) (d2 : List (Int × Int × Int × Int × Int × List UInt8)) (d3 : List Int) (d4 : List (List (Int × Int × Int × Int × Int × List UInt8))) (d5 : Int) (d6 : Int) : Option (List (Int × Int × Int × Int × Int × List UInt8) × List Int × List (Int × Int × Int × Int × Int × List UInt8)) := rb 67 (d1, d2, d3, d4, d5, d6)
noncomputable def k68 (rb : T.RB) (d1 : List Int) (d2 : List Int) (d3 : List Int) (d4 : Int) : Option (List Int × List Int × List Int) := rb 68 (d1, d2, d3, d4)
noncomputable def k70 (rb : T.RB) (d1 : List (List UInt8)) (d2 : List (List (Int × Int × Int × Int × Int × List UInt8))) (d3 : Int) : Option (List (List UInt8) × List (List (Int × Int × Int × Int × Int × List UInt8))) := rb 70 (d1, d2, d3)
noncomputable def k72 (rb : T.RB) (d1 : List (List UInt8)) (d2 : List UInt8) (d3 : Int) (d4 : Int) : Option Int := rb 72 (d1, d2, d3, d4)
noncomputable def k73 (rb : T.RB) (d1 : List (Int × Int × Int × Int × Int × List UInt8)) (d2 : List (List UInt8)) (d3 : Int) : Option (Bool ⊕ Unit) := rb 73 (d1, d2, d3)
noncomputable def k74 (rb : T.RB) (d1 : List (Int × Int × Int × Int × Int × List UInt8)) (d2 : List (List UInt8)) (d3 : List (List UInt8)) (d4 : Int) : Option (Bool ⊕ Unit) := rb 74 (d1, d2, d3, d4)

/- bailmentlaw03.few -/
noncomputable def r1 (rf : T.RF) (rb : T.RB) (d1 : List (Int × Int × Int × Int × Int × List UInt8)) (d2 : Int) : Option Bool :=
  some (decide ((((d1.length : Nat) : Int)) ≤ d2))
theorem er1 (rf : T.RF) (rb : T.RB) (d1 : List (Int × Int × Int × Int × Int × List UInt8)) (d2 : Int) : T.stepF rf rb 1 (d1, d2) = r1 rf rb d1 d2 := by kernel_rfl
theorem or1 {d1 : List (Int × Int × Int × Int × Int × List UInt8)} {d2 : Int} {y : Bool} (h : r1 T.rf T.rb d1 d2 = some y) : c1 T.rf d1 d2 = some y := T.rf_of (f := 1) (d := (d1, d2)) ((er1 T.rf T.rb d1 d2).trans h)

/- tree.Kids -/
noncomputable def r4 (rf : T.RF) (rb : T.RB) (d1 : Int × Int × Int × Int × Int × List UInt8) : Option (List Int) :=
  bif d1.1 == 26 then
    some [d1.2.1, d1.2.2.1, d1.2.2.2.1]
  else
  bif d1.1 == 28 then
    bif d1.2.2.1 != (-1) then
      some [d1.2.2.1, d1.2.1]
    else
    bif d1.1 == 27 then
      bif d1.2.1 == (-1) then
        some []
      else
      bif decide (d1.1 ≥ 6) then
        bif decide (d1.1 ≤ 20) then
          some [d1.2.1, d1.2.2.1]
        else
        bif d1.1 == 4 then
          some [d1.2.1]
        else
        bif d1.1 == 5 then
          some [d1.2.1]
        else
        bif decide (d1.1 ≥ 21) then
          bif decide (d1.1 ≤ 28) then
            some [d1.2.1]
          else
            some []
        else
          some []
      else
      bif d1.1 == 4 then
        some [d1.2.1]
      else
      bif d1.1 == 5 then
        some [d1.2.1]
      else
      bif decide (d1.1 ≥ 21) then
        bif decide (d1.1 ≤ 28) then
          some [d1.2.1]
        else
          some []
      else
        some []
    else
    bif decide (d1.1 ≥ 6) then
      bif decide (d1.1 ≤ 20) then
        some [d1.2.1, d1.2.2.1]
      else
      bif d1.1 == 4 then
        some [d1.2.1]
      else
      bif d1.1 == 5 then
        some [d1.2.1]
      else
      bif decide (d1.1 ≥ 21) then
        bif decide (d1.1 ≤ 28) then
          some [d1.2.1]
        else
          some []
      else
        some []
    else
    bif d1.1 == 4 then
      some [d1.2.1]
    else
    bif d1.1 == 5 then
      some [d1.2.1]
    else
    bif decide (d1.1 ≥ 21) then
      bif decide (d1.1 ≤ 28) then
        some [d1.2.1]
      else
        some []
    else
      some []
  else
  bif d1.1 == 27 then
    bif d1.2.1 == (-1) then
      some []
    else
    bif decide (d1.1 ≥ 6) then
      bif decide (d1.1 ≤ 20) then
        some [d1.2.1, d1.2.2.1]
      else
      bif d1.1 == 4 then
        some [d1.2.1]
      else
      bif d1.1 == 5 then
        some [d1.2.1]
      else
      bif decide (d1.1 ≥ 21) then
        bif decide (d1.1 ≤ 28) then
          some [d1.2.1]
        else
          some []
      else
        some []
    else
    bif d1.1 == 4 then
      some [d1.2.1]
    else
    bif d1.1 == 5 then
      some [d1.2.1]
    else
    bif decide (d1.1 ≥ 21) then
      bif decide (d1.1 ≤ 28) then
        some [d1.2.1]
      else
        some []
    else
      some []
  else
  bif decide (d1.1 ≥ 6) then
    bif decide (d1.1 ≤ 20) then
      some [d1.2.1, d1.2.2.1]
    else
    bif d1.1 == 4 then
      some [d1.2.1]
    else
    bif d1.1 == 5 then
      some [d1.2.1]
    else
    bif decide (d1.1 ≥ 21) then
      bif decide (d1.1 ≤ 28) then
        some [d1.2.1]
      else
        some []
    else
      some []
  else
  bif d1.1 == 4 then
    some [d1.2.1]
  else
  bif d1.1 == 5 then
    some [d1.2.1]
  else
  bif decide (d1.1 ≥ 21) then
    bif decide (d1.1 ≤ 28) then
      some [d1.2.1]
    else
      some []
  else
    some []
theorem er4 (rf : T.RF) (rb : T.RB) (d1 : Int × Int × Int × Int × Int × List UInt8) : T.stepF rf rb 4 d1 = r4 rf rb d1 := by kernel_rfl
theorem or4 {d1 : Int × Int × Int × Int × Int × List UInt8} {y : (List Int)} (h : r4 T.rf T.rb d1 = some y) : c4 T.rf d1 = some y := T.rf_of (f := 4) (d := d1) ((er4 T.rf T.rb d1).trans h)

/- tree.behind loop 0 -/
noncomputable def b2 (rf : T.RF) (rb : T.RB) (d1 : List (Int × Int × Int × Int × Int × List UInt8)) (d2 : Int) (d3 : List (Int × Int × Int × Int × Int × List UInt8)) (d4 : Int) (d5 : Int) : Option (List (Int × Int × Int × Int × Int × List UInt8)) :=
  bif decide (d5 < d4) then
    bif inb d5 d3.length then
      (nth d3 d5.toNat).bind fun (x1 : Int × Int × Int × Int × Int × List UInt8) =>
      bif decide (x1.2.1 ≥ 0) then
        bif decide (x1.2.2.1 ≥ 0) then
          bif decide (x1.2.2.2.1 ≥ 0) then
            bif (Nat.ble (d1.length + 1) most) && true then
              k2 rb (d1 ++ [(x1.1, IntKind.i64.wrap (x1.2.1 + d2), IntKind.i64.wrap (x1.2.2.1 + d2), IntKind.i64.wrap (x1.2.2.2.1 + d2), x1.2.2.2.2)]) d2 d3 d4 (IntKind.i64.wrap (d5 + 1))
            else
              none
          else
          bif (Nat.ble (d1.length + 1) most) && true then
            k2 rb (d1 ++ [(x1.1, IntKind.i64.wrap (x1.2.1 + d2), IntKind.i64.wrap (x1.2.2.1 + d2), x1.2.2.2)]) d2 d3 d4 (IntKind.i64.wrap (d5 + 1))
          else
            none
        else
        bif decide (x1.2.2.2.1 ≥ 0) then
          bif (Nat.ble (d1.length + 1) most) && true then
            k2 rb (d1 ++ [(x1.1, IntKind.i64.wrap (x1.2.1 + d2), x1.2.2.1, IntKind.i64.wrap (x1.2.2.2.1 + d2), x1.2.2.2.2)]) d2 d3 d4 (IntKind.i64.wrap (d5 + 1))
          else
            none
        else
        bif (Nat.ble (d1.length + 1) most) && true then
          k2 rb (d1 ++ [(x1.1, IntKind.i64.wrap (x1.2.1 + d2), x1.2.2)]) d2 d3 d4 (IntKind.i64.wrap (d5 + 1))
        else
          none
      else
      bif decide (x1.2.2.1 ≥ 0) then
        bif decide (x1.2.2.2.1 ≥ 0) then
          bif (Nat.ble (d1.length + 1) most) && true then
            k2 rb (d1 ++ [(x1.1, x1.2.1, IntKind.i64.wrap (x1.2.2.1 + d2), IntKind.i64.wrap (x1.2.2.2.1 + d2), x1.2.2.2.2)]) d2 d3 d4 (IntKind.i64.wrap (d5 + 1))
          else
            none
        else
        bif (Nat.ble (d1.length + 1) most) && true then
          k2 rb (d1 ++ [(x1.1, x1.2.1, IntKind.i64.wrap (x1.2.2.1 + d2), x1.2.2.2)]) d2 d3 d4 (IntKind.i64.wrap (d5 + 1))
        else
          none
      else
      bif decide (x1.2.2.2.1 ≥ 0) then
        bif (Nat.ble (d1.length + 1) most) && true then
          k2 rb (d1 ++ [(x1.1, x1.2.1, x1.2.2.1, IntKind.i64.wrap (x1.2.2.2.1 + d2), x1.2.2.2.2)]) d2 d3 d4 (IntKind.i64.wrap (d5 + 1))
        else
          none
      else
      bif (Nat.ble (d1.length + 1) most) && true then
        k2 rb (d1 ++ [x1]) d2 d3 d4 (IntKind.i64.wrap (d5 + 1))
      else
        none
    else
      none
  else
    some d1
theorem eb2 (rf : T.RF) (rb : T.RB) (d1 : List (Int × Int × Int × Int × Int × List UInt8)) (d2 : Int) (d3 : List (Int × Int × Int × Int × Int × List UInt8)) (d4 : Int) (d5 : Int) : T.stepB rf rb 2 (d1, d2, d3, d4, d5) = b2 rf rb d1 d2 d3 d4 d5 := by kernel_rfl
theorem ob2 {d1 : List (Int × Int × Int × Int × Int × List UInt8)} {d2 : Int} {d3 : List (Int × Int × Int × Int × Int × List UInt8)} {d4 : Int} {d5 : Int} {y : (List (Int × Int × Int × Int × Int × List UInt8))} (h : b2 T.rf T.rb d1 d2 d3 d4 d5 = some y) : k2 T.rb d1 d2 d3 d4 d5 = some y := T.rb_of (κ := 2) (d := (d1, d2, d3, d4, d5)) ((eb2 T.rf T.rb d1 d2 d3 d4 d5).trans h)

/- tree.behind -/
noncomputable def r5 (rf : T.RF) (rb : T.RB) (d1 : List (Int × Int × Int × Int × Int × List UInt8)) (d2 : List (Int × Int × Int × Int × Int × List UInt8)) : Option (List (Int × Int × Int × Int × Int × List UInt8)) :=
  (k2 rb d1 (((d1.length : Nat) : Int)) d2 (((d2.length : Nat) : Int)) 0).bind fun (z1 : List (Int × Int × Int × Int × Int × List UInt8)) =>
  some z1
theorem er5 (rf : T.RF) (rb : T.RB) (d1 : List (Int × Int × Int × Int × Int × List UInt8)) (d2 : List (Int × Int × Int × Int × Int × List UInt8)) : T.stepF rf rb 5 (d1, d2) = r5 rf rb d1 d2 := by kernel_rfl
theorem or5 {d1 : List (Int × Int × Int × Int × Int × List UInt8)} {d2 : List (Int × Int × Int × Int × Int × List UInt8)} {y : (List (Int × Int × Int × Int × Int × List UInt8))} (h : r5 T.rf T.rb d1 d2 = some y) : c5 T.rf d1 d2 = some y := T.rf_of (f := 5) (d := (d1, d2)) ((er5 T.rf T.rb d1 d2).trans h)

/- tree.with -/
noncomputable def r6 (rf : T.RF) (rb : T.RB) (d1 : Int × Int × Int × Int × Int × List UInt8) (d2 : List Int) : Option (Int × Int × Int × Int × Int × List UInt8) :=
  bif d1.1 == 28 then
    bif (((d2.length : Nat) : Int)) == 2 then
      bif inb 0 d2.length then
        (nth d2 0).bind fun (x1 : Int) =>
        bif inb 1 d2.length then
          (nth d2 1).bind fun (x2 : Int) =>
          some (d1.1, x2, x1, d1.2.2.2)
        else
          none
      else
        none
    else
    bif decide (0 < (((d2.length : Nat) : Int))) then
      bif inb 0 d2.length then
        (nth d2 0).bind fun (x3 : Int) =>
        bif decide (1 < (((d2.length : Nat) : Int))) then
          bif inb 1 d2.length then
            (nth d2 1).bind fun (x4 : Int) =>
            bif decide (2 < (((d2.length : Nat) : Int))) then
              bif inb 2 d2.length then
                (nth d2 2).bind fun (x5 : Int) =>
                some (d1.1, x3, x4, x5, d1.2.2.2.2)
              else
                none
            else
              some (d1.1, x3, x4, d1.2.2.2)
          else
            none
        else
        bif decide (2 < (((d2.length : Nat) : Int))) then
          bif inb 2 d2.length then
            (nth d2 2).bind fun (x6 : Int) =>
            some (d1.1, x3, d1.2.2.1, x6, d1.2.2.2.2)
          else
            none
        else
          some (d1.1, x3, d1.2.2)
      else
        none
    else
    bif decide (1 < (((d2.length : Nat) : Int))) then
      bif inb 1 d2.length then
        (nth d2 1).bind fun (x7 : Int) =>
        bif decide (2 < (((d2.length : Nat) : Int))) then
          bif inb 2 d2.length then
            (nth d2 2).bind fun (x8 : Int) =>
            some (d1.1, d1.2.1, x7, x8, d1.2.2.2.2)
          else
            none
        else
          some (d1.1, d1.2.1, x7, d1.2.2.2)
      else
        none
    else
    bif decide (2 < (((d2.length : Nat) : Int))) then
      bif inb 2 d2.length then
        (nth d2 2).bind fun (x9 : Int) =>
        some (d1.1, d1.2.1, d1.2.2.1, x9, d1.2.2.2.2)
      else
        none
    else
      some d1
  else
  bif decide (0 < (((d2.length : Nat) : Int))) then
    bif inb 0 d2.length then
      (nth d2 0).bind fun (x10 : Int) =>
      bif decide (1 < (((d2.length : Nat) : Int))) then
        bif inb 1 d2.length then
          (nth d2 1).bind fun (x11 : Int) =>
          bif decide (2 < (((d2.length : Nat) : Int))) then
            bif inb 2 d2.length then
              (nth d2 2).bind fun (x12 : Int) =>
              some (d1.1, x10, x11, x12, d1.2.2.2.2)
            else
              none
          else
            some (d1.1, x10, x11, d1.2.2.2)
        else
          none
      else
      bif decide (2 < (((d2.length : Nat) : Int))) then
        bif inb 2 d2.length then
          (nth d2 2).bind fun (x13 : Int) =>
          some (d1.1, x10, d1.2.2.1, x13, d1.2.2.2.2)
        else
          none
      else
        some (d1.1, x10, d1.2.2)
    else
      none
  else
  bif decide (1 < (((d2.length : Nat) : Int))) then
    bif inb 1 d2.length then
      (nth d2 1).bind fun (x14 : Int) =>
      bif decide (2 < (((d2.length : Nat) : Int))) then
        bif inb 2 d2.length then
          (nth d2 2).bind fun (x15 : Int) =>
          some (d1.1, d1.2.1, x14, x15, d1.2.2.2.2)
        else
          none
      else
        some (d1.1, d1.2.1, x14, d1.2.2.2)
    else
      none
  else
  bif decide (2 < (((d2.length : Nat) : Int))) then
    bif inb 2 d2.length then
      (nth d2 2).bind fun (x16 : Int) =>
      some (d1.1, d1.2.1, d1.2.2.1, x16, d1.2.2.2.2)
    else
      none
  else
    some d1
theorem er6 (rf : T.RF) (rb : T.RB) (d1 : Int × Int × Int × Int × Int × List UInt8) (d2 : List Int) : T.stepF rf rb 6 (d1, d2) = r6 rf rb d1 d2 := by kernel_rfl
theorem or6 {d1 : Int × Int × Int × Int × Int × List UInt8} {d2 : List Int} {y : (Int × Int × Int × Int × Int × List UInt8)} (h : r6 T.rf T.rb d1 d2 = some y) : c6 T.rf d1 d2 = some y := T.rf_of (f := 6) (d := (d1, d2)) ((er6 T.rf T.rb d1 d2).trans h)

/- tree.Join loop 0 -/
noncomputable def b3 (rf : T.RF) (rb : T.RB) (d1 : List (Int × Int × Int × Int × Int × List UInt8)) (d2 : List Int) (d3 : Int) (d4 : List (List (Int × Int × Int × Int × Int × List UInt8))) (d5 : Int) (d6 : Int) : Option ((List (Int × Int × Int × Int × Int × List UInt8)) ⊕ (List (Int × Int × Int × Int × Int × List UInt8) × List Int)) :=
  bif decide (d6 < d5) then
    bif inb d6 d4.length then
      (nth d4 d6.toNat).bind fun (x1 : List (Int × Int × Int × Int × Int × List UInt8)) =>
      bif (((x1.length : Nat) : Int)) == 0 then
        some (.inl [])
      else
        (c5 rf d1 x1).bind fun (y2 : List (Int × Int × Int × Int × Int × List UInt8)) =>
        bif d3 == 27 then
          bif decide ((((d2.length : Nat) : Int)) > 0) then
            bif inb 0 d2.length then
              (nth d2 0).bind fun (x3 : Int) =>
              bif (Nat.ble (y2.length + 1) most) && true then
                bif inb' 0 d2.length then
                  bif (Nat.ble ((sub d2 (some (0, 0))).length + 1) most) && true then
                    k3 rb (y2 ++ [(28, IntKind.i64.wrap ((((y2.length : Nat) : Int)) - 1), x3, (-1), 0, ([] : List UInt8))]) ((sub d2 (some (0, 0))) ++ [IntKind.i64.wrap (((((y2 ++ [(28, IntKind.i64.wrap ((((y2.length : Nat) : Int)) - 1), x3, (-1), 0, ([] : List UInt8))]).length : Nat) : Int)) - 1)]) d3 d4 d5 (IntKind.i64.wrap (d6 + 1))
                  else
                    none
                else
                  none
              else
                none
            else
              none
          else
          bif (Nat.ble (y2.length + 1) most) && true then
            bif inb' 0 d2.length then
              bif (Nat.ble ((sub d2 (some (0, 0))).length + 1) most) && true then
                k3 rb (y2 ++ [(28, IntKind.i64.wrap ((((y2.length : Nat) : Int)) - 1), (-1), (-1), 0, ([] : List UInt8))]) ((sub d2 (some (0, 0))) ++ [IntKind.i64.wrap (((((y2 ++ [(28, IntKind.i64.wrap ((((y2.length : Nat) : Int)) - 1), (-1), (-1), 0, ([] : List UInt8))]).length : Nat) : Int)) - 1)]) d3 d4 d5 (IntKind.i64.wrap (d6 + 1))
              else
                none
            else
              none
          else
            none
        else
        bif (Nat.ble (d2.length + 1) most) && true then
          k3 rb y2 (d2 ++ [IntKind.i64.wrap ((((y2.length : Nat) : Int)) - 1)]) d3 d4 d5 (IntKind.i64.wrap (d6 + 1))
        else
          none
    else
      none
  else
    some (.inr (d1, d2))
theorem eb3 (rf : T.RF) (rb : T.RB) (d1 : List (Int × Int × Int × Int × Int × List UInt8)) (d2 : List Int) (d3 : Int) (d4 : List (List (Int × Int × Int × Int × Int × List UInt8))) (d5 : Int) (d6 : Int) : T.stepB rf rb 3 (d1, d2, d3, d4, d5, d6) = b3 rf rb d1 d2 d3 d4 d5 d6 := by kernel_rfl
theorem ob3 {d1 : List (Int × Int × Int × Int × Int × List UInt8)} {d2 : List Int} {d3 : Int} {d4 : List (List (Int × Int × Int × Int × Int × List UInt8))} {d5 : Int} {d6 : Int} {y : ((List (Int × Int × Int × Int × Int × List UInt8)) ⊕ (List (Int × Int × Int × Int × Int × List UInt8) × List Int))} (h : b3 T.rf T.rb d1 d2 d3 d4 d5 d6 = some y) : k3 T.rb d1 d2 d3 d4 d5 d6 = some y := T.rb_of (κ := 3) (d := (d1, d2, d3, d4, d5, d6)) ((eb3 T.rf T.rb d1 d2 d3 d4 d5 d6).trans h)

/- tree.Join -/
noncomputable def r3 (rf : T.RF) (rb : T.RB) (d1 : Int) (d2 : Int) (d3 : List UInt8) (d4 : List (List (Int × Int × Int × Int × Int × List UInt8))) : Option (List (Int × Int × Int × Int × Int × List UInt8)) :=
  bif d1 == 28 then
    some []
  else
  bif d1 != 27 then
    (c4 rf (d1, (-1), (-1), (-1), d2, d3)).bind fun (y1 : List Int) =>
    bif (((y1.length : Nat) : Int)) != (((d4.length : Nat) : Int)) then
      some []
    else
      (k3 rb [] [] d1 d4 (((d4.length : Nat) : Int)) 0).bind fun (z2 : (List (Int × Int × Int × Int × Int × List UInt8)) ⊕ (List (Int × Int × Int × Int × Int × List UInt8) × List Int)) =>
      match z2 with
      | .inl u3 =>
        some u3
      | .inr w4 =>
        (c6 rf (d1, (-1), (-1), (-1), d2, d3) w4.2).bind fun (y5 : Int × Int × Int × Int × Int × List UInt8) =>
        bif (Nat.ble (w4.1.length + 1) most) && true then
          some (w4.1 ++ [y5])
        else
          none
  else
    (k3 rb [] [] d1 d4 (((d4.length : Nat) : Int)) 0).bind fun (z6 : (List (Int × Int × Int × Int × Int × List UInt8)) ⊕ (List (Int × Int × Int × Int × Int × List UInt8) × List Int)) =>
    match z6 with
    | .inl u7 =>
      some u7
    | .inr w8 =>
      (c6 rf (d1, (-1), (-1), (-1), d2, d3) w8.2).bind fun (y9 : Int × Int × Int × Int × Int × List UInt8) =>
      bif (Nat.ble (w8.1.length + 1) most) && true then
        some (w8.1 ++ [y9])
      else
        none
theorem er3 (rf : T.RF) (rb : T.RB) (d1 : Int) (d2 : Int) (d3 : List UInt8) (d4 : List (List (Int × Int × Int × Int × Int × List UInt8))) : T.stepF rf rb 3 (d1, d2, d3, d4) = r3 rf rb d1 d2 d3 d4 := by kernel_rfl
theorem or3 {d1 : Int} {d2 : Int} {d3 : List UInt8} {d4 : List (List (Int × Int × Int × Int × Int × List UInt8))} {y : (List (Int × Int × Int × Int × Int × List UInt8))} (h : r3 T.rf T.rb d1 d2 d3 d4 = some y) : c3 T.rf d1 d2 d3 d4 = some y := T.rf_of (f := 3) (d := (d1, d2, d3, d4)) ((er3 T.rf T.rb d1 d2 d3 d4).trans h)

/- tree.isNode tail 9 -/
noncomputable def b5q (rf : T.RF) (rb : T.RB) (d1 : Int × Int × Int × Int × Int × List UInt8) (d2 : Int) : Option ((Int × Int × Int × Int × Int × List UInt8) × Bool) :=
  agree (
    (c4 rf d1).bind fun (y1 : List Int) =>
    agN 1 (
      (c6 rf (d1.1, (-1), (-1), (-1), d1.2.2.2.2) y1).bind fun (y2 : Int × Int × Int × Int × Int × List UInt8) =>
      (k6 rb d1 y2 d2).bind fun (z3 : (Int × Int × Int × Int × Int × List UInt8) × (Int × Int × Int × Int × Int × List UInt8) × Bool) =>
      some (z3.1, z3.2.2)
    )
  ) (
    (c4 rf d1).bind fun (y1 : List Int) =>
    (c6 rf (d1.1, (-1), (-1), (-1), d1.2.2.2.2) y1).bind fun (y2 : Int × Int × Int × Int × Int × List UInt8) =>
    (k6 rb d1 y2 d2).bind fun (z3 : (Int × Int × Int × Int × Int × List UInt8) × (Int × Int × Int × Int × Int × List UInt8) × Bool) =>
    some (z3.1, z3.2.2)
  )
noncomputable def b5 (rf : T.RF) (rb : T.RB) (d1 : Int × Int × Int × Int × Int × List UInt8) (d2 : Int) : Option ((Int × Int × Int × Int × Int × List UInt8) × Bool) :=
  (c4 rf d1).bind fun (y1 : List Int) =>
  (c6 rf (d1.1, (-1), (-1), (-1), d1.2.2.2.2) y1).bind fun (y2 : Int × Int × Int × Int × Int × List UInt8) =>
  (k6 rb d1 y2 d2).bind fun (z3 : (Int × Int × Int × Int × Int × List UInt8) × (Int × Int × Int × Int × Int × List UInt8) × Bool) =>
  some (z3.1, z3.2.2)
theorem eb5 (rf : T.RF) (rb : T.RB) (d1 : Int × Int × Int × Int × Int × List UInt8) (d2 : Int) : T.stepB rf rb 5 (d1, d2) = b5q rf rb d1 d2 := by kernel_rfl
theorem sb5 (rf : T.RF) (rb : T.RB) (d1 : Int × Int × Int × Int × Int × List UInt8) (d2 : Int) : b5q rf rb d1 d2 = b5 rf rb d1 d2 := by
  unfold b5q b5; simp only [agN_eq, agree_self, agree_swap]
theorem ob5 {d1 : Int × Int × Int × Int × Int × List UInt8} {d2 : Int} {y : ((Int × Int × Int × Int × Int × List UInt8) × Bool)} (h : b5 T.rf T.rb d1 d2 = some y) : k5 T.rb d1 d2 = some y := T.rb_of (κ := 5) (d := (d1, d2)) (((eb5 T.rf T.rb d1 d2).trans (sb5 T.rf T.rb d1 d2)).trans h)

/- tree.isNode tail 10 -/
noncomputable def b6 (rf : T.RF) (rb : T.RB) (d1 : Int × Int × Int × Int × Int × List UInt8) (d2 : Int × Int × Int × Int × Int × List UInt8) (d3 : Int) : Option ((Int × Int × Int × Int × Int × List UInt8) × (Int × Int × Int × Int × Int × List UInt8) × Bool) :=
  bif d1.1 == 3 then
    bif decide (d1.1 ≥ 1) then
      bif decide (d1.1 ≤ 28) then
        bif (d1.1 == d2.1) && ((d1.2.1 == d2.2.1) && ((d1.2.2.1 == d2.2.2.1) && ((d1.2.2.2.1 == d2.2.2.2.1) && ((d1.2.2.2.2.1 == d2.2.2.2.2.1) && (d1.2.2.2.2.2 == d2.2.2.2.2.2))))) then
          bif decide (d1.2.2.2.2.1 ≥ 0) then
            bif decide (d1.2.2.2.2.1 ≤ d3) then
              some (d1, d2, (!(d1.2.2.2.2.2 == ([] : List UInt8))) == true)
            else
              some (d1, d2, false)
          else
            some (d1, d2, false)
        else
          some (d1, d2, false)
      else
        some (d1, d2, false)
    else
      some (d1, d2, false)
  else
  bif decide (d1.1 ≥ 1) then
    bif decide (d1.1 ≤ 28) then
      bif (d1.1 == d2.1) && ((d1.2.1 == d2.2.1) && ((d1.2.2.1 == d2.2.2.1) && ((d1.2.2.2.1 == d2.2.2.2.1) && ((d1.2.2.2.2.1 == d2.2.2.2.2.1) && (d1.2.2.2.2.2 == d2.2.2.2.2.2))))) then
        bif decide (d1.2.2.2.2.1 ≥ 0) then
          bif decide (d1.2.2.2.2.1 ≤ d3) then
            some (d1, d2, (!(d1.2.2.2.2.2 == ([] : List UInt8))) == (d1.1 == 27))
          else
            some (d1, d2, false)
        else
          some (d1, d2, false)
      else
        some (d1, d2, false)
    else
      some (d1, d2, false)
  else
    some (d1, d2, false)
theorem eb6 (rf : T.RF) (rb : T.RB) (d1 : Int × Int × Int × Int × Int × List UInt8) (d2 : Int × Int × Int × Int × Int × List UInt8) (d3 : Int) : T.stepB rf rb 6 (d1, d2, d3) = b6 rf rb d1 d2 d3 := by kernel_rfl
theorem ob6 {d1 : Int × Int × Int × Int × Int × List UInt8} {d2 : Int × Int × Int × Int × Int × List UInt8} {d3 : Int} {y : ((Int × Int × Int × Int × Int × List UInt8) × (Int × Int × Int × Int × Int × List UInt8) × Bool)} (h : b6 T.rf T.rb d1 d2 d3 = some y) : k6 T.rb d1 d2 d3 = some y := T.rb_of (κ := 6) (d := (d1, d2, d3)) ((eb6 T.rf T.rb d1 d2 d3).trans h)

/- tree.isNode -/
noncomputable def r9 (rf : T.RF) (rb : T.RB) (d1 : Int × Int × Int × Int × Int × List UInt8) : Option Bool :=
  bif d1.1 == 1 then
    (k5 rb d1 2147483647).bind fun (z1 : (Int × Int × Int × Int × Int × List UInt8) × Bool) =>
    some z1.2
  else
  bif d1.1 == 2 then
    (k5 rb d1 1).bind fun (z2 : (Int × Int × Int × Int × Int × List UInt8) × Bool) =>
    some z2.2
  else
  bif d1.1 == 25 then
    (k5 rb d1 1000).bind fun (z3 : (Int × Int × Int × Int × Int × List UInt8) × Bool) =>
    some z3.2
  else
    (k5 rb d1 0).bind fun (z4 : (Int × Int × Int × Int × Int × List UInt8) × Bool) =>
    some z4.2
theorem er9 (rf : T.RF) (rb : T.RB) (d1 : Int × Int × Int × Int × Int × List UInt8) : T.stepF rf rb 9 d1 = r9 rf rb d1 := by kernel_rfl
theorem or9 {d1 : Int × Int × Int × Int × Int × List UInt8} {y : Bool} (h : r9 T.rf T.rb d1 = some y) : c9 T.rf d1 = some y := T.rf_of (f := 9) (d := d1) ((er9 T.rf T.rb d1).trans h)

/- slices.Index[[]bool,bool] loop 0 -/
noncomputable def b8 (rf : T.RF) (rb : T.RB) (d1 : List Bool) (d2 : Bool) (d3 : Int) (d4 : Int) : Option (Int ⊕ Unit) :=
  bif decide (d4 < d3) then
    bif inb d4 d1.length then
      (nth d1 d4.toNat).bind fun (x1 : Bool) =>
      bif d2 == x1 then
        some (.inl d4)
      else
        k8 rb d1 d2 d3 (IntKind.i64.wrap (d4 + 1))
    else
      none
  else
    some (.inr ())
theorem eb8 (rf : T.RF) (rb : T.RB) (d1 : List Bool) (d2 : Bool) (d3 : Int) (d4 : Int) : T.stepB rf rb 8 (d1, d2, d3, d4) = b8 rf rb d1 d2 d3 d4 := by kernel_rfl
theorem ob8 {d1 : List Bool} {d2 : Bool} {d3 : Int} {d4 : Int} {y : (Int ⊕ Unit)} (h : b8 T.rf T.rb d1 d2 d3 d4 = some y) : k8 T.rb d1 d2 d3 d4 = some y := T.rb_of (κ := 8) (d := (d1, d2, d3, d4)) ((eb8 T.rf T.rb d1 d2 d3 d4).trans h)

/- slices.Index[[]bool,bool] -/
noncomputable def r11 (rf : T.RF) (rb : T.RB) (d1 : List Bool) (d2 : Bool) : Option Int :=
  (k8 rb d1 d2 (((d1.length : Nat) : Int)) 0).bind fun (z1 : Int ⊕ Unit) =>
  match z1 with
  | .inl u2 =>
    some u2
  | .inr w3 =>
    some (-1)
theorem er11 (rf : T.RF) (rb : T.RB) (d1 : List Bool) (d2 : Bool) : T.stepF rf rb 11 (d1, d2) = r11 rf rb d1 d2 := by kernel_rfl
theorem or11 {d1 : List Bool} {d2 : Bool} {y : Int} (h : r11 T.rf T.rb d1 d2 = some y) : c11 T.rf d1 d2 = some y := T.rf_of (f := 11) (d := (d1, d2)) ((er11 T.rf T.rb d1 d2).trans h)

/- slices.Contains[[]bool,bool] -/
noncomputable def r10 (rf : T.RF) (rb : T.RB) (d1 : List Bool) (d2 : Bool) : Option Bool :=
  (c11 rf d1 d2).bind fun (y1 : Int) =>
  some (decide (y1 ≥ 0))
theorem er10 (rf : T.RF) (rb : T.RB) (d1 : List Bool) (d2 : Bool) : T.stepF rf rb 10 (d1, d2) = r10 rf rb d1 d2 := by kernel_rfl
theorem or10 {d1 : List Bool} {d2 : Bool} {y : Bool} (h : r10 T.rf T.rb d1 d2 = some y) : c10 T.rf d1 d2 = some y := T.rf_of (f := 10) (d := (d1, d2)) ((er10 T.rf T.rb d1 d2).trans h)

/- tree.depths loop 0 -/
noncomputable def b15 (rf : T.RF) (rb : T.RB) (d1 : List Int) (d2 : List (Int × Int × Int × Int × Int × List UInt8)) (d3 : Int) (d4 : Int) : Option (List Int) :=
  bif decide (d4 < d3) then
    bif inb d4 d2.length then
      (nth d2 d4.toNat).bind fun (x1 : Int × Int × Int × Int × Int × List UInt8) =>
      (c4 rf x1).bind fun (y2 : List Int) =>
      (k16 rb d1 y2 d4 (((y2.length : Nat) : Int)) 0).bind fun (z3 : List Int × List Int) =>
      bif inb d4 z3.1.length then
        (nth z3.1 d4.toNat).bind fun (x4 : Int) =>
        bif inb d4 z3.1.length then
          bif Nat.blt d4.toNat z3.1.length then
            k15 rb (setNth z3.1 d4.toNat (IntKind.i64.wrap (x4 + 1))) d2 d3 (IntKind.i64.wrap (d4 + 1))
          else
            none
        else
          none
      else
        none
    else
      none
  else
    some d1
theorem eb15 (rf : T.RF) (rb : T.RB) (d1 : List Int) (d2 : List (Int × Int × Int × Int × Int × List UInt8)) (d3 : Int) (d4 : Int) : T.stepB rf rb 15 (d1, d2, d3, d4) = b15 rf rb d1 d2 d3 d4 := by kernel_rfl
theorem ob15 {d1 : List Int} {d2 : List (Int × Int × Int × Int × Int × List UInt8)} {d3 : Int} {d4 : Int} {y : (List Int)} (h : b15 T.rf T.rb d1 d2 d3 d4 = some y) : k15 T.rb d1 d2 d3 d4 = some y := T.rb_of (κ := 15) (d := (d1, d2, d3, d4)) ((eb15 T.rf T.rb d1 d2 d3 d4).trans h)

/- tree.depths loop 2 -/
noncomputable def b16q (rf : T.RF) (rb : T.RB) (d1 : List Int) (d2 : List Int) (d3 : Int) (d4 : Int) (d5 : Int) : Option (List Int × List Int) :=
  bif decide (d5 < d4) then
    bif inb d5 d2.length then
      (nth d2 d5.toNat).bind fun (x1 : Int) =>
      bif decide (x1 ≥ 0) then
        bif decide (x1 < d3) then
          bif inb d3 d1.length then
            bif inb x1 d1.length then
              agree (
                (nth d1 d3.toNat).bind fun (x2 : Int) =>
                (nth d1 x1.toNat).bind fun (x3 : Int) =>
                bif inb d3 d1.length then
                  bif Nat.blt d3.toNat d1.length then
                    k16 rb (setNth d1 d3.toNat (if x3 > x2 then x3 else x2)) d2 d3 d4 (IntKind.i64.wrap (d5 + 1))
                  else
                    none
                else
                  none
              ) (
                (nth d1 x1.toNat).bind fun (x2 : Int) =>
                (nth d1 d3.toNat).bind fun (x3 : Int) =>
                bif inb d3 d1.length then
                  bif Nat.blt d3.toNat d1.length then
                    k16 rb (setNth d1 d3.toNat (if x2 > x3 then x2 else x3)) d2 d3 d4 (IntKind.i64.wrap (d5 + 1))
                  else
                    none
                else
                  none
              )
            else
              none
          else
            none
        else
          k16 rb d1 d2 d3 d4 (IntKind.i64.wrap (d5 + 1))
      else
        k16 rb d1 d2 d3 d4 (IntKind.i64.wrap (d5 + 1))
    else
      none
  else
    some (d1, d2)
noncomputable def b16 (rf : T.RF) (rb : T.RB) (d1 : List Int) (d2 : List Int) (d3 : Int) (d4 : Int) (d5 : Int) : Option (List Int × List Int) :=
  bif decide (d5 < d4) then
    bif inb d5 d2.length then
      (nth d2 d5.toNat).bind fun (x1 : Int) =>
      bif decide (x1 ≥ 0) then
        bif decide (x1 < d3) then
          bif inb d3 d1.length then
            bif inb x1 d1.length then
              (nth d1 d3.toNat).bind fun (x2 : Int) =>
              (nth d1 x1.toNat).bind fun (x3 : Int) =>
              bif inb d3 d1.length then
                bif Nat.blt d3.toNat d1.length then
                  k16 rb (setNth d1 d3.toNat (if x3 > x2 then x3 else x2)) d2 d3 d4 (IntKind.i64.wrap (d5 + 1))
                else
                  none
              else
                none
            else
              none
          else
            none
        else
          k16 rb d1 d2 d3 d4 (IntKind.i64.wrap (d5 + 1))
      else
        k16 rb d1 d2 d3 d4 (IntKind.i64.wrap (d5 + 1))
    else
      none
  else
    some (d1, d2)
theorem eb16 (rf : T.RF) (rb : T.RB) (d1 : List Int) (d2 : List Int) (d3 : Int) (d4 : Int) (d5 : Int) : T.stepB rf rb 16 (d1, d2, d3, d4, d5) = b16q rf rb d1 d2 d3 d4 d5 := by kernel_rfl
theorem sb16 (rf : T.RF) (rb : T.RB) (d1 : List Int) (d2 : List Int) (d3 : Int) (d4 : Int) (d5 : Int) : b16q rf rb d1 d2 d3 d4 d5 = b16 rf rb d1 d2 d3 d4 d5 := by
  unfold b16q b16; simp only [agN_eq, agree_self, agree_swap]
theorem ob16 {d1 : List Int} {d2 : List Int} {d3 : Int} {d4 : Int} {d5 : Int} {y : (List Int × List Int)} (h : b16 T.rf T.rb d1 d2 d3 d4 d5 = some y) : k16 T.rb d1 d2 d3 d4 d5 = some y := T.rb_of (κ := 16) (d := (d1, d2, d3, d4, d5)) (((eb16 T.rf T.rb d1 d2 d3 d4 d5).trans (sb16 T.rf T.rb d1 d2 d3 d4 d5)).trans h)

/- tree.depths -/
noncomputable def r13 (rf : T.RF) (rb : T.RB) (d1 : List (Int × Int × Int × Int × Int × List UInt8)) : Option (List Int) :=
  bif inb' (((d1.length : Nat) : Int)) most then
    bif inb' (((d1.length : Nat) : Int)) d1.length then
      (k15 rb (List.replicate d1.length 0) d1 (((d1.length : Nat) : Int)) 0).bind fun (z1 : List Int) =>
      some z1
    else
      none
  else
    none
theorem er13 (rf : T.RF) (rb : T.RB) (d1 : List (Int × Int × Int × Int × Int × List UInt8)) : T.stepF rf rb 13 d1 = r13 rf rb d1 := by kernel_rfl
theorem or13 {d1 : List (Int × Int × Int × Int × Int × List UInt8)} {y : (List Int)} (h : r13 T.rf T.rb d1 = some y) : c13 T.rf d1 = some y := T.rf_of (f := 13) (d := d1) ((er13 T.rf T.rb d1).trans h)

/- tree.Depth -/
noncomputable def r12 (rf : T.RF) (rb : T.RB) (d1 : List (Int × Int × Int × Int × Int × List UInt8)) : Option Int :=
  bif (((d1.length : Nat) : Int)) == 0 then
    some 0
  else
    (c13 rf d1).bind fun (y1 : List Int) =>
    bif inb (IntKind.i64.wrap ((((d1.length : Nat) : Int)) - 1)) y1.length then
      (nth y1 (IntKind.i64.wrap ((((d1.length : Nat) : Int)) - 1)).toNat).bind fun (x2 : Int) =>
      some x2
    else
      none
theorem er12 (rf : T.RF) (rb : T.RB) (d1 : List (Int × Int × Int × Int × Int × List UInt8)) : T.stepF rf rb 12 d1 = r12 rf rb d1 := by kernel_rfl
theorem or12 {d1 : List (Int × Int × Int × Int × Int × List UInt8)} {y : Int} (h : r12 T.rf T.rb d1 = some y) : c12 T.rf d1 = some y := T.rf_of (f := 12) (d := d1) ((er12 T.rf T.rb d1).trans h)

/- tree.May loop 0 -/
noncomputable def b4 (rf : T.RF) (rb : T.RB) (d1 : List Bool) (d2 : List (Int × Int × Int × Int × Int × List UInt8)) (d3 : List (Int × Int × Int × Int × Int × List UInt8)) (d4 : Int) (d5 : Int) : Option ((List Bool × Bool) ⊕ (List Bool)) :=
  bif decide (d5 < d4) then
    bif inb d5 d3.length then
      (nth d3 d5.toNat).bind fun (x1 : Int × Int × Int × Int × Int × List UInt8) =>
      (c9 rf x1).bind fun (y2 : Bool) =>
      bif !y2 then
        some (.inl (d1, false))
      else
        (c4 rf x1).bind fun (y3 : List Int) =>
        (k7 rb d1 x1 y3 d2 d5 (((y3.length : Nat) : Int)) 0).bind fun (z4 : (List Bool × (Int × Int × Int × Int × Int × List UInt8) × List Int × Bool) ⊕ (List Bool × (Int × Int × Int × Int × Int × List UInt8) × List Int)) =>
        match z4 with
        | .inl u5 =>
          some (.inl (u5.1, u5.2.2.2))
        | .inr w6 =>
          k4 rb w6.1 d2 d3 d4 (IntKind.i64.wrap (d5 + 1))
    else
      none
  else
    some (.inr d1)
theorem eb4 (rf : T.RF) (rb : T.RB) (d1 : List Bool) (d2 : List (Int × Int × Int × Int × Int × List UInt8)) (d3 : List (Int × Int × Int × Int × Int × List UInt8)) (d4 : Int) (d5 : Int) : T.stepB rf rb 4 (d1, d2, d3, d4, d5) = b4 rf rb d1 d2 d3 d4 d5 := by kernel_rfl
theorem ob4 {d1 : List Bool} {d2 : List (Int × Int × Int × Int × Int × List UInt8)} {d3 : List (Int × Int × Int × Int × Int × List UInt8)} {d4 : Int} {d5 : Int} {y : ((List Bool × Bool) ⊕ (List Bool))} (h : b4 T.rf T.rb d1 d2 d3 d4 d5 = some y) : k4 T.rb d1 d2 d3 d4 d5 = some y := T.rb_of (κ := 4) (d := (d1, d2, d3, d4, d5)) ((eb4 T.rf T.rb d1 d2 d3 d4 d5).trans h)

/- tree.May loop 2 -/
noncomputable def b7 (rf : T.RF) (rb : T.RB) (d1 : List Bool) (d2 : Int × Int × Int × Int × Int × List UInt8) (d3 : List Int) (d4 : List (Int × Int × Int × Int × Int × List UInt8)) (d5 : Int) (d6 : Int) (d7 : Int) : Option ((List Bool × (Int × Int × Int × Int × Int × List UInt8) × List Int × Bool) ⊕ (List Bool × (Int × Int × Int × Int × Int × List UInt8) × List Int)) :=
  bif decide (d7 < d6) then
    bif inb d7 d3.length then
      (nth d3 d7.toNat).bind fun (x1 : Int) =>
      bif decide (x1 < 0) then
        some (.inl (d1, d2, d3, false))
      else
      bif decide (x1 ≥ d5) then
        some (.inl (d1, d2, d3, false))
      else
      bif inb x1 d1.length then
        (nth d1 x1.toNat).bind fun (x2 : Bool) =>
        bif x2 then
          some (.inl (d1, d2, d3, false))
        else
        bif inb x1 d1.length then
          bif Nat.blt x1.toNat d1.length then
            bif d2.1 == 27 then
              bif inb x1 d4.length then
                (nth d4 x1.toNat).bind fun (x3 : Int × Int × Int × Int × Int × List UInt8) =>
                bif !((x3.1 == 28) == true) then
                  some (.inl (setNth d1 x1.toNat true, d2, d3, false))
                else
                  k7 rb (setNth d1 x1.toNat true) d2 d3 d4 d5 d6 (IntKind.i64.wrap (d7 + 1))
              else
                none
            else
            bif d2.1 == 28 then
              bif d2.2.2.1 != (-1) then
                bif inb x1 d4.length then
                  (nth d4 x1.toNat).bind fun (x4 : Int × Int × Int × Int × Int × List UInt8) =>
                  bif !((x4.1 == 28) == (d7 == 0)) then
                    some (.inl (setNth d1 x1.toNat true, d2, d3, false))
                  else
                    k7 rb (setNth d1 x1.toNat true) d2 d3 d4 d5 d6 (IntKind.i64.wrap (d7 + 1))
                else
                  none
              else
              bif inb x1 d4.length then
                (nth d4 x1.toNat).bind fun (x5 : Int × Int × Int × Int × Int × List UInt8) =>
                bif !((x5.1 == 28) == false) then
                  some (.inl (setNth d1 x1.toNat true, d2, d3, false))
                else
                  k7 rb (setNth d1 x1.toNat true) d2 d3 d4 d5 d6 (IntKind.i64.wrap (d7 + 1))
              else
                none
            else
            bif inb x1 d4.length then
              (nth d4 x1.toNat).bind fun (x6 : Int × Int × Int × Int × Int × List UInt8) =>
              bif !((x6.1 == 28) == false) then
                some (.inl (setNth d1 x1.toNat true, d2, d3, false))
              else
                k7 rb (setNth d1 x1.toNat true) d2 d3 d4 d5 d6 (IntKind.i64.wrap (d7 + 1))
            else
              none
          else
            none
        else
          none
      else
        none
    else
      none
  else
    some (.inr (d1, d2, d3))
theorem eb7 (rf : T.RF) (rb : T.RB) (d1 : List Bool) (d2 : Int × Int × Int × Int × Int × List UInt8) (d3 : List Int) (d4 : List (Int × Int × Int × Int × Int × List UInt8)) (d5 : Int) (d6 : Int) (d7 : Int) : T.stepB rf rb 7 (d1, d2, d3, d4, d5, d6, d7) = b7 rf rb d1 d2 d3 d4 d5 d6 d7 := by kernel_rfl
theorem ob7 {d1 : List Bool} {d2 : Int × Int × Int × Int × Int × List UInt8} {d3 : List Int} {d4 : List (Int × Int × Int × Int × Int × List UInt8)} {d5 : Int} {d6 : Int} {d7 : Int} {y : ((List Bool × (Int × Int × Int × Int × Int × List UInt8) × List Int × Bool) ⊕ (List Bool × (Int × Int × Int × Int × Int × List UInt8) × List Int))} (h : b7 T.rf T.rb d1 d2 d3 d4 d5 d6 d7 = some y) : k7 T.rb d1 d2 d3 d4 d5 d6 d7 = some y := T.rb_of (κ := 7) (d := (d1, d2, d3, d4, d5, d6, d7)) ((eb7 T.rf T.rb d1 d2 d3 d4 d5 d6 d7).trans h)

/- tree.May -/
noncomputable def r8 (rf : T.RF) (rb : T.RB) (d1 : List (Int × Int × Int × Int × Int × List UInt8)) : Option Bool :=
  bif (((d1.length : Nat) : Int)) == 0 then
    some false
  else
  bif decide ((((d1.length : Nat) : Int)) > 5000) then
    some false
  else
  bif inb (IntKind.i64.wrap ((((d1.length : Nat) : Int)) - 1)) d1.length then
    (nth d1 (IntKind.i64.wrap ((((d1.length : Nat) : Int)) - 1)).toNat).bind fun (x1 : Int × Int × Int × Int × Int × List UInt8) =>
    bif x1.1 == 28 then
      some false
    else
    bif inb' (((d1.length : Nat) : Int)) most then
      bif inb' (((d1.length : Nat) : Int)) d1.length then
        (k4 rb (List.replicate d1.length false) d1 d1 (((d1.length : Nat) : Int)) 0).bind fun (z2 : (List Bool × Bool) ⊕ (List Bool)) =>
        match z2 with
        | .inl u3 =>
          some u3.2
        | .inr w4 =>
          bif inb' (IntKind.i64.wrap ((((d1.length : Nat) : Int)) - 1)) w4.length then
            (c10 rf (sub w4 (some (0, ((IntKind.i64.wrap ((((d1.length : Nat) : Int)) - 1)).toNat - 0)))) false).bind fun (y5 : Bool) =>
            bif !y5 then
              (c12 rf d1).bind fun (y6 : Int) =>
              some (decide (y6 ≤ 40))
            else
              some false
          else
            none
      else
        none
    else
      none
  else
    none
theorem er8 (rf : T.RF) (rb : T.RB) (d1 : List (Int × Int × Int × Int × Int × List UInt8)) : T.stepF rf rb 8 d1 = r8 rf rb d1 := by kernel_rfl
theorem or8 {d1 : List (Int × Int × Int × Int × Int × List UInt8)} {y : Bool} (h : r8 T.rf T.rb d1 = some y) : c8 T.rf d1 = some y := T.rf_of (f := 8) (d := d1) ((er8 T.rf T.rb d1).trans h)

/- tree.Put$1 -/
noncomputable def r16 (rf : T.RF) (rb : T.RB) (d1 : List (Int × Int × Int × Int × Int × List UInt8)) : Option Bool :=
  (c8 rf d1).bind fun (y1 : Bool) =>
  some (!y1)
theorem er16 (rf : T.RF) (rb : T.RB) (d1 : List (Int × Int × Int × Int × Int × List UInt8)) : T.stepF rf rb 16 d1 = r16 rf rb d1 := by kernel_rfl
theorem or16 {d1 : List (Int × Int × Int × Int × Int × List UInt8)} {y : Bool} (h : r16 T.rf T.rb d1 = some y) : c16 T.rf d1 = some y := T.rf_of (f := 16) (d := d1) ((er16 T.rf T.rb d1).trans h)

/- slices.IndexFunc[[]bailment/api.Expr,bailment/api.Expr] loop 0 -/
noncomputable def b17 (rf : T.RF) (rb : T.RB) (d1 : List (List (Int × Int × Int × Int × Int × List UInt8))) (d2 : Int) (d3 : Int) : Option (Int ⊕ Unit) :=
  bif decide (d3 < d2) then
    bif inb d3 d1.length then
      (nth d1 d3.toNat).bind fun (x1 : List (Int × Int × Int × Int × Int × List UInt8)) =>
      (c16 rf x1).bind fun (y2 : Bool) =>
      bif y2 then
        some (.inl d3)
      else
        k17 rb d1 d2 (IntKind.i64.wrap (d3 + 1))
    else
      none
  else
    some (.inr ())
theorem eb17 (rf : T.RF) (rb : T.RB) (d1 : List (List (Int × Int × Int × Int × Int × List UInt8))) (d2 : Int) (d3 : Int) : T.stepB rf rb 17 (d1, d2, d3) = b17 rf rb d1 d2 d3 := by kernel_rfl
theorem ob17 {d1 : List (List (Int × Int × Int × Int × Int × List UInt8))} {d2 : Int} {d3 : Int} {y : (Int ⊕ Unit)} (h : b17 T.rf T.rb d1 d2 d3 = some y) : k17 T.rb d1 d2 d3 = some y := T.rb_of (κ := 17) (d := (d1, d2, d3)) ((eb17 T.rf T.rb d1 d2 d3).trans h)

/- slices.IndexFunc[[]bailment/api.Expr,bailment/api.Expr] -/
noncomputable def r15 (rf : T.RF) (rb : T.RB) (d1 : List (List (Int × Int × Int × Int × Int × List UInt8))) : Option Int :=
  (k17 rb d1 (((d1.length : Nat) : Int)) 0).bind fun (z1 : Int ⊕ Unit) =>
  match z1 with
  | .inl u2 =>
    some u2
  | .inr w3 =>
    some (-1)
theorem er15 (rf : T.RF) (rb : T.RB) (d1 : List (List (Int × Int × Int × Int × Int × List UInt8))) : T.stepF rf rb 15 d1 = r15 rf rb d1 := by kernel_rfl
theorem or15 {d1 : List (List (Int × Int × Int × Int × Int × List UInt8))} {y : Int} (h : r15 T.rf T.rb d1 = some y) : c15 T.rf d1 = some y := T.rf_of (f := 15) (d := d1) ((er15 T.rf T.rb d1).trans h)

/- slices.ContainsFunc[[]bailment/api.Expr,bailment/api.Expr] -/
noncomputable def r14 (rf : T.RF) (rb : T.RB) (d1 : List (List (Int × Int × Int × Int × Int × List UInt8))) : Option Bool :=
  (c15 rf d1).bind fun (y1 : Int) =>
  some (decide (y1 ≥ 0))
theorem er14 (rf : T.RF) (rb : T.RB) (d1 : List (List (Int × Int × Int × Int × Int × List UInt8))) : T.stepF rf rb 14 d1 = r14 rf rb d1 := by kernel_rfl
theorem or14 {d1 : List (List (Int × Int × Int × Int × Int × List UInt8))} {y : Bool} (h : r14 T.rf T.rb d1 = some y) : c14 T.rf d1 = some y := T.rf_of (f := 14) (d := d1) ((er14 T.rf T.rb d1).trans h)

/- tree.order loop 0 -/
noncomputable def b19 (rf : T.RF) (rb : T.RB) (d1 : List (Int × Int × Int × Int × Int × List UInt8)) (d2 : List Int) (d3 : List (Int × Int × Int × Int × Int × List UInt8)) (d4 : Int) (d5 : Int) : Option (List Int × List (Int × Int × Int × Int × Int × List UInt8)) :=
  bif decide (d5 < d4) then
    bif inb d5 d2.length then
      (nth d2 d5.toNat).bind fun (x1 : Int) =>
      (c18 rf d1 d3 x1).bind fun (y2 : List (Int × Int × Int × Int × Int × List UInt8)) =>
      bif inb d5 d2.length then
        bif Nat.blt d5.toNat d2.length then
          k19 rb y2 (setNth d2 d5.toNat (IntKind.i64.wrap ((((y2.length : Nat) : Int)) - 1))) d3 d4 (IntKind.i64.wrap (d5 + 1))
        else
          none
      else
        none
    else
      none
  else
    some (d2, d1)
theorem eb19 (rf : T.RF) (rb : T.RB) (d1 : List (Int × Int × Int × Int × Int × List UInt8)) (d2 : List Int) (d3 : List (Int × Int × Int × Int × Int × List UInt8)) (d4 : Int) (d5 : Int) : T.stepB rf rb 19 (d1, d2, d3, d4, d5) = b19 rf rb d1 d2 d3 d4 d5 := by kernel_rfl
theorem ob19 {d1 : List (Int × Int × Int × Int × Int × List UInt8)} {d2 : List Int} {d3 : List (Int × Int × Int × Int × Int × List UInt8)} {d4 : Int} {d5 : Int} {y : (List Int × List (Int × Int × Int × Int × Int × List UInt8))} (h : b19 T.rf T.rb d1 d2 d3 d4 d5 = some y) : k19 T.rb d1 d2 d3 d4 d5 = some y := T.rb_of (κ := 19) (d := (d1, d2, d3, d4, d5)) ((eb19 T.rf T.rb d1 d2 d3 d4 d5).trans h)

/- tree.order -/
noncomputable def r18 (rf : T.RF) (rb : T.RB) (d1 : List (Int × Int × Int × Int × Int × List UInt8)) (d2 : List (Int × Int × Int × Int × Int × List UInt8)) (d3 : Int) : Option (List (Int × Int × Int × Int × Int × List UInt8)) :=
  bif inb d3 d2.length then
    (nth d2 d3.toNat).bind fun (x1 : Int × Int × Int × Int × Int × List UInt8) =>
    (c4 rf x1).bind fun (y2 : List Int) =>
    (k19 rb d1 y2 d2 (((y2.length : Nat) : Int)) 0).bind fun (z3 : List Int × List (Int × Int × Int × Int × Int × List UInt8)) =>
    bif inb d3 d2.length then
      (nth d2 d3.toNat).bind fun (x4 : Int × Int × Int × Int × Int × List UInt8) =>
      (c6 rf x4 z3.1).bind fun (y5 : Int × Int × Int × Int × Int × List UInt8) =>
      bif (Nat.ble (z3.2.length + 1) most) && true then
        some (z3.2 ++ [y5])
      else
        none
    else
      none
  else
    none
theorem er18 (rf : T.RF) (rb : T.RB) (d1 : List (Int × Int × Int × Int × Int × List UInt8)) (d2 : List (Int × Int × Int × Int × Int × List UInt8)) (d3 : Int) : T.stepF rf rb 18 (d1, d2, d3) = r18 rf rb d1 d2 d3 := by kernel_rfl
theorem or18 {d1 : List (Int × Int × Int × Int × Int × List UInt8)} {d2 : List (Int × Int × Int × Int × Int × List UInt8)} {d3 : Int} {y : (List (Int × Int × Int × Int × Int × List UInt8))} (h : r18 T.rf T.rb d1 d2 d3 = some y) : c18 T.rf d1 d2 d3 = some y := T.rf_of (f := 18) (d := (d1, d2, d3)) ((er18 T.rf T.rb d1 d2 d3).trans h)

/- tree.Sub -/
noncomputable def r17 (rf : T.RF) (rb : T.RB) (d1 : List (Int × Int × Int × Int × Int × List UInt8)) (d2 : Int) : Option (List (Int × Int × Int × Int × Int × List UInt8)) :=
  bif decide (d2 < 0) then
    some []
  else
  bif decide (d2 ≥ (((d1.length : Nat) : Int))) then
    some []
  else
    (c8 rf d1).bind fun (y1 : Bool) =>
    bif !y1 then
      some []
    else
      (c18 rf [] d1 d2).bind fun (y2 : List (Int × Int × Int × Int × Int × List UInt8)) =>
      some y2
theorem er17 (rf : T.RF) (rb : T.RB) (d1 : List (Int × Int × Int × Int × Int × List UInt8)) (d2 : Int) : T.stepF rf rb 17 (d1, d2) = r17 rf rb d1 d2 := by kernel_rfl
theorem or17 {d1 : List (Int × Int × Int × Int × Int × List UInt8)} {d2 : Int} {y : (List (Int × Int × Int × Int × Int × List UInt8))} (h : r17 T.rf T.rb d1 d2 = some y) : c17 T.rf d1 d2 = some y := T.rf_of (f := 17) (d := (d1, d2)) ((er17 T.rf T.rb d1 d2).trans h)

/- slices.Index[[]string,string] loop 0 -/
noncomputable def b21 (rf : T.RF) (rb : T.RB) (d1 : List (List UInt8)) (d2 : List UInt8) (d3 : Int) (d4 : Int) : Option (Int ⊕ Unit) :=
  bif decide (d4 < d3) then
    bif inb d4 d1.length then
      (nth d1 d4.toNat).bind fun (x1 : List UInt8) =>
      bif d2 == x1 then
        some (.inl d4)
      else
        k21 rb d1 d2 d3 (IntKind.i64.wrap (d4 + 1))
    else
      none
  else
    some (.inr ())
theorem eb21 (rf : T.RF) (rb : T.RB) (d1 : List (List UInt8)) (d2 : List UInt8) (d3 : Int) (d4 : Int) : T.stepB rf rb 21 (d1, d2, d3, d4) = b21 rf rb d1 d2 d3 d4 := by kernel_rfl
theorem ob21 {d1 : List (List UInt8)} {d2 : List UInt8} {d3 : Int} {d4 : Int} {y : (Int ⊕ Unit)} (h : b21 T.rf T.rb d1 d2 d3 d4 = some y) : k21 T.rb d1 d2 d3 d4 = some y := T.rb_of (κ := 21) (d := (d1, d2, d3, d4)) ((eb21 T.rf T.rb d1 d2 d3 d4).trans h)

/- slices.Index[[]string,string] -/
noncomputable def r19 (rf : T.RF) (rb : T.RB) (d1 : List (List UInt8)) (d2 : List UInt8) : Option Int :=
  (k21 rb d1 d2 (((d1.length : Nat) : Int)) 0).bind fun (z1 : Int ⊕ Unit) =>
  match z1 with
  | .inl u2 =>
    some u2
  | .inr w3 =>
    some (-1)
theorem er19 (rf : T.RF) (rb : T.RB) (d1 : List (List UInt8)) (d2 : List UInt8) : T.stepF rf rb 19 (d1, d2) = r19 rf rb d1 d2 := by kernel_rfl
theorem or19 {d1 : List (List UInt8)} {d2 : List UInt8} {y : Int} (h : r19 T.rf T.rb d1 d2 = some y) : c19 T.rf d1 d2 = some y := T.rf_of (f := 19) (d := (d1, d2)) ((er19 T.rf T.rb d1 d2).trans h)

/- tree.Put loop 0 -/
noncomputable def b23 (rf : T.RF) (rb : T.RB) (d1 : List (Int × Int × Int × Int × Int × List UInt8)) (d2 : List Int) (d3 : List (Int × Int × Int × Int × Int × List UInt8)) (d4 : List (List UInt8)) (d5 : List (List (Int × Int × Int × Int × Int × List UInt8))) (d6 : Int) (d7 : Int) : Option (List (Int × Int × Int × Int × Int × List UInt8) × List (Int × Int × Int × Int × Int × List UInt8)) :=
  bif decide (d7 < d6) then
    bif inb d7 d3.length then
      (nth d3 d7.toNat).bind fun (x1 : Int × Int × Int × Int × Int × List UInt8) =>
      (c19 rf d4 x1.2.2.2.2.2).bind fun (y2 : Int) =>
      bif x1.1 == 3 then
        bif decide (y2 ≥ 0) then
          bif inb y2 d5.length then
            (nth d5 y2.toNat).bind fun (x3 : List (Int × Int × Int × Int × Int × List UInt8)) =>
            bif inb y2 d5.length then
              (nth d5 y2.toNat).bind fun (x4 : List (Int × Int × Int × Int × Int × List UInt8)) =>
              (c17 rf x3 (IntKind.i64.wrap ((((x4.length : Nat) : Int)) - 1))).bind fun (y5 : List (Int × Int × Int × Int × Int × List UInt8)) =>
              (c5 rf d1 y5).bind fun (y6 : List (Int × Int × Int × Int × Int × List UInt8)) =>
              bif (Nat.ble (d2.length + 1) most) && true then
                k23 rb y6 (d2 ++ [IntKind.i64.wrap ((((y6.length : Nat) : Int)) - 1)]) d3 d4 d5 d6 (IntKind.i64.wrap (d7 + 1))
              else
                none
            else
              none
          else
            none
        else
          (c4 rf x1).bind fun (y7 : List Int) =>
          (k24 rb d2 y7 (((y7.length : Nat) : Int)) 0).bind fun (z8 : List Int × List Int) =>
          (c6 rf x1 z8.2).bind fun (y9 : Int × Int × Int × Int × Int × List UInt8) =>
          bif (Nat.ble (d1.length + 1) most) && true then
            bif (Nat.ble (z8.1.length + 1) most) && true then
              k23 rb (d1 ++ [y9]) (z8.1 ++ [IntKind.i64.wrap (((((d1 ++ [y9]).length : Nat) : Int)) - 1)]) d3 d4 d5 d6 (IntKind.i64.wrap (d7 + 1))
            else
              none
          else
            none
      else
        (c4 rf x1).bind fun (y10 : List Int) =>
        (k24 rb d2 y10 (((y10.length : Nat) : Int)) 0).bind fun (z11 : List Int × List Int) =>
        (c6 rf x1 z11.2).bind fun (y12 : Int × Int × Int × Int × Int × List UInt8) =>
        bif (Nat.ble (d1.length + 1) most) && true then
          bif (Nat.ble (z11.1.length + 1) most) && true then
            k23 rb (d1 ++ [y12]) (z11.1 ++ [IntKind.i64.wrap (((((d1 ++ [y12]).length : Nat) : Int)) - 1)]) d3 d4 d5 d6 (IntKind.i64.wrap (d7 + 1))
          else
            none
        else
          none
    else
      none
  else
    some (d3, d1)
theorem eb23 (rf : T.RF) (rb : T.RB) (d1 : List (Int × Int × Int × Int × Int × List UInt8)) (d2 : List Int) (d3 : List (Int × Int × Int × Int × Int × List UInt8)) (d4 : List (List UInt8)) (d5 : List (List (Int × Int × Int × Int × Int × List UInt8))) (d6 : Int) (d7 : Int) : T.stepB rf rb 23 (d1, d2, d3, d4, d5, d6, d7) = b23 rf rb d1 d2 d3 d4 d5 d6 d7 := by kernel_rfl
theorem ob23 {d1 : List (Int × Int × Int × Int × Int × List UInt8)} {d2 : List Int} {d3 : List (Int × Int × Int × Int × Int × List UInt8)} {d4 : List (List UInt8)} {d5 : List (List (Int × Int × Int × Int × Int × List UInt8))} {d6 : Int} {d7 : Int} {y : (List (Int × Int × Int × Int × Int × List UInt8) × List (Int × Int × Int × Int × Int × List UInt8))} (h : b23 T.rf T.rb d1 d2 d3 d4 d5 d6 d7 = some y) : k23 T.rb d1 d2 d3 d4 d5 d6 d7 = some y := T.rb_of (κ := 23) (d := (d1, d2, d3, d4, d5, d6, d7)) ((eb23 T.rf T.rb d1 d2 d3 d4 d5 d6 d7).trans h)

/- tree.Put loop 2 -/
noncomputable def b24 (rf : T.RF) (rb : T.RB) (d1 : List Int) (d2 : List Int) (d3 : Int) (d4 : Int) : Option (List Int × List Int) :=
  bif decide (d4 < d3) then
    bif inb d4 d2.length then
      (nth d2 d4.toNat).bind fun (x1 : Int) =>
      bif inb x1 d1.length then
        (nth d1 x1.toNat).bind fun (x2 : Int) =>
        bif inb d4 d2.length then
          bif Nat.blt d4.toNat d2.length then
            k24 rb d1 (setNth d2 d4.toNat x2) d3 (IntKind.i64.wrap (d4 + 1))
          else
            none
        else
          none
      else
        none
    else
      none
  else
    some (d1, d2)
theorem eb24 (rf : T.RF) (rb : T.RB) (d1 : List Int) (d2 : List Int) (d3 : Int) (d4 : Int) : T.stepB rf rb 24 (d1, d2, d3, d4) = b24 rf rb d1 d2 d3 d4 := by kernel_rfl
theorem ob24 {d1 : List Int} {d2 : List Int} {d3 : Int} {d4 : Int} {y : (List Int × List Int)} (h : b24 T.rf T.rb d1 d2 d3 d4 = some y) : k24 T.rb d1 d2 d3 d4 = some y := T.rb_of (κ := 24) (d := (d1, d2, d3, d4)) ((eb24 T.rf T.rb d1 d2 d3 d4).trans h)

/- tree.Put -/
noncomputable def r7 (rf : T.RF) (rb : T.RB) (d1 : List (Int × Int × Int × Int × Int × List UInt8)) (d2 : List (List UInt8)) (d3 : List (List (Int × Int × Int × Int × Int × List UInt8))) : Option (List (Int × Int × Int × Int × Int × List UInt8)) :=
  (c8 rf d1).bind fun (y1 : Bool) =>
  bif !y1 then
    some []
  else
  bif (((d2.length : Nat) : Int)) != (((d3.length : Nat) : Int)) then
    some []
  else
    (c14 rf d3).bind fun (y2 : Bool) =>
    bif y2 then
      some []
    else
      (c17 rf d1 (IntKind.i64.wrap ((((d1.length : Nat) : Int)) - 1))).bind fun (y3 : List (Int × Int × Int × Int × Int × List UInt8)) =>
      (k23 rb [] [] y3 d2 d3 (((y3.length : Nat) : Int)) 0).bind fun (z4 : List (Int × Int × Int × Int × Int × List UInt8) × List (Int × Int × Int × Int × Int × List UInt8)) =>
      some z4.2
theorem er7 (rf : T.RF) (rb : T.RB) (d1 : List (Int × Int × Int × Int × Int × List UInt8)) (d2 : List (List UInt8)) (d3 : List (List (Int × Int × Int × Int × Int × List UInt8))) : T.stepF rf rb 7 (d1, d2, d3) = r7 rf rb d1 d2 d3 := by kernel_rfl
theorem or7 {d1 : List (Int × Int × Int × Int × Int × List UInt8)} {d2 : List (List UInt8)} {d3 : List (List (Int × Int × Int × Int × Int × List UInt8))} {y : (List (Int × Int × Int × Int × Int × List UInt8))} (h : r7 T.rf T.rb d1 d2 d3 = some y) : c7 T.rf d1 d2 d3 = some y := T.rf_of (f := 7) (d := (d1, d2, d3)) ((er7 T.rf T.rb d1 d2 d3).trans h)

/- bailmentref03.Same loop 0 -/
noncomputable def b25 (rf : T.RF) (rb : T.RB) (d1 : List (Int × Int × Int × Int × Int × List UInt8)) (d2 : List (Int × Int × Int × Int × Int × List UInt8)) (d3 : Int) : Option (Bool ⊕ Unit) :=
  bif decide (d3 < (((d1.length : Nat) : Int))) then
    bif inb d3 d1.length then
      (nth d1 d3.toNat).bind fun (x1 : Int × Int × Int × Int × Int × List UInt8) =>
      bif inb d3 d2.length then
        (nth d2 d3.toNat).bind fun (x2 : Int × Int × Int × Int × Int × List UInt8) =>
        bif !((x1.1 == x2.1) && ((x1.2.1 == x2.2.1) && ((x1.2.2.1 == x2.2.2.1) && ((x1.2.2.2.1 == x2.2.2.2.1) && ((x1.2.2.2.2.1 == x2.2.2.2.2.1) && (x1.2.2.2.2.2 == x2.2.2.2.2.2)))))) then
          some (.inl false)
        else
          k25 rb d1 d2 (IntKind.i64.wrap (d3 + 1))
      else
        none
    else
      none
  else
    some (.inr ())
theorem eb25 (rf : T.RF) (rb : T.RB) (d1 : List (Int × Int × Int × Int × Int × List UInt8)) (d2 : List (Int × Int × Int × Int × Int × List UInt8)) (d3 : Int) : T.stepB rf rb 25 (d1, d2, d3) = b25 rf rb d1 d2 d3 := by kernel_rfl
theorem ob25 {d1 : List (Int × Int × Int × Int × Int × List UInt8)} {d2 : List (Int × Int × Int × Int × Int × List UInt8)} {d3 : Int} {y : (Bool ⊕ Unit)} (h : b25 T.rf T.rb d1 d2 d3 = some y) : k25 T.rb d1 d2 d3 = some y := T.rb_of (κ := 25) (d := (d1, d2, d3)) ((eb25 T.rf T.rb d1 d2 d3).trans h)

/- bailmentref03.Same -/
noncomputable def r20 (rf : T.RF) (rb : T.RB) (d1 : List (Int × Int × Int × Int × Int × List UInt8)) (d2 : List (Int × Int × Int × Int × Int × List UInt8)) : Option Bool :=
  bif (((d1.length : Nat) : Int)) != (((d2.length : Nat) : Int)) then
    some false
  else
    (k25 rb d1 d2 0).bind fun (z1 : Bool ⊕ Unit) =>
    match z1 with
    | .inl u2 =>
      some u2
    | .inr w3 =>
      some true
theorem er20 (rf : T.RF) (rb : T.RB) (d1 : List (Int × Int × Int × Int × Int × List UInt8)) (d2 : List (Int × Int × Int × Int × Int × List UInt8)) : T.stepF rf rb 20 (d1, d2) = r20 rf rb d1 d2 := by kernel_rfl
theorem or20 {d1 : List (Int × Int × Int × Int × Int × List UInt8)} {d2 : List (Int × Int × Int × Int × Int × List UInt8)} {y : Bool} (h : r20 T.rf T.rb d1 d2 = some y) : c20 T.rf d1 d2 = some y := T.rf_of (f := 20) (d := (d1, d2)) ((er20 T.rf T.rb d1 d2).trans h)

/- tree.Vars loop 0 -/
noncomputable def b27 (rf : T.RF) (rb : T.RB) (d1 : List (List UInt8)) (d2 : List (List UInt8 × Bool)) (d3 : List (Int × Int × Int × Int × Int × List UInt8)) (d4 : Int) (d5 : Int) : Option (List (List UInt8 × Bool) × List (Int × Int × Int × Int × Int × List UInt8) × List (List UInt8)) :=
  bif decide (d5 < d4) then
    bif inb d5 d3.length then
      (nth d3 d5.toNat).bind fun (x1 : Int × Int × Int × Int × Int × List UInt8) =>
      bif x1.1 == 3 then
        bif !(assocGet (CT.eqK .str) false d2 x1.2.2.2.2.2) then
          bif (Nat.ble (d1.length + 1) most) && true then
            k27 rb (d1 ++ [x1.2.2.2.2.2]) (assocSet (CT.eqK .str) d2 x1.2.2.2.2.2 true) d3 d4 (IntKind.i64.wrap (d5 + 1))
          else
            none
        else
          k27 rb d1 d2 d3 d4 (IntKind.i64.wrap (d5 + 1))
      else
        k27 rb d1 d2 d3 d4 (IntKind.i64.wrap (d5 + 1))
    else
      none
  else
    some (d2, d3, d1)
theorem eb27 (rf : T.RF) (rb : T.RB) (d1 : List (List UInt8)) (d2 : List (List UInt8 × Bool)) (d3 : List (Int × Int × Int × Int × Int × List UInt8)) (d4 : Int) (d5 : Int) : T.stepB rf rb 27 (d1, d2, d3, d4, d5) = b27 rf rb d1 d2 d3 d4 d5 := by kernel_rfl
theorem ob27 {d1 : List (List UInt8)} {d2 : List (List UInt8 × Bool)} {d3 : List (Int × Int × Int × Int × Int × List UInt8)} {d4 : Int} {d5 : Int} {y : (List (List UInt8 × Bool) × List (Int × Int × Int × Int × Int × List UInt8) × List (List UInt8))} (h : b27 T.rf T.rb d1 d2 d3 d4 d5 = some y) : k27 T.rb d1 d2 d3 d4 d5 = some y := T.rb_of (κ := 27) (d := (d1, d2, d3, d4, d5)) ((eb27 T.rf T.rb d1 d2 d3 d4 d5).trans h)

/- tree.Vars -/
noncomputable def r21 (rf : T.RF) (rb : T.RB) (d1 : List (Int × Int × Int × Int × Int × List UInt8)) : Option (List (List UInt8)) :=
  (c17 rf d1 (IntKind.i64.wrap ((((d1.length : Nat) : Int)) - 1))).bind fun (y1 : List (Int × Int × Int × Int × Int × List UInt8)) =>
  (k27 rb [] [] y1 (((y1.length : Nat) : Int)) 0).bind fun (z2 : List (List UInt8 × Bool) × List (Int × Int × Int × Int × Int × List UInt8) × List (List UInt8)) =>
  some z2.2.2
theorem er21 (rf : T.RF) (rb : T.RB) (d1 : List (Int × Int × Int × Int × Int × List UInt8)) : T.stepF rf rb 21 d1 = r21 rf rb d1 := by kernel_rfl
theorem or21 {d1 : List (Int × Int × Int × Int × Int × List UInt8)} {y : (List (List UInt8))} (h : r21 T.rf T.rb d1 = some y) : c21 T.rf d1 = some y := T.rf_of (f := 21) (d := d1) ((er21 T.rf T.rb d1).trans h)

/- bailmentref02.Texts loop 0 -/
noncomputable def b28 (rf : T.RF) (rb : T.RB) (d1 : List (List UInt8)) (d2 : List (List UInt8)) (d3 : Int) : Option (Bool ⊕ Unit) :=
  bif decide (d3 < (((d1.length : Nat) : Int))) then
    bif inb d3 d1.length then
      (nth d1 d3.toNat).bind fun (x1 : List UInt8) =>
      bif inb d3 d2.length then
        (nth d2 d3.toNat).bind fun (x2 : List UInt8) =>
        bif !(x1 == x2) then
          some (.inl false)
        else
          k28 rb d1 d2 (IntKind.i64.wrap (d3 + 1))
      else
        none
    else
      none
  else
    some (.inr ())
theorem eb28 (rf : T.RF) (rb : T.RB) (d1 : List (List UInt8)) (d2 : List (List UInt8)) (d3 : Int) : T.stepB rf rb 28 (d1, d2, d3) = b28 rf rb d1 d2 d3 := by kernel_rfl
theorem ob28 {d1 : List (List UInt8)} {d2 : List (List UInt8)} {d3 : Int} {y : (Bool ⊕ Unit)} (h : b28 T.rf T.rb d1 d2 d3 = some y) : k28 T.rb d1 d2 d3 = some y := T.rb_of (κ := 28) (d := (d1, d2, d3)) ((eb28 T.rf T.rb d1 d2 d3).trans h)

/- bailmentref02.Texts -/
noncomputable def r22 (rf : T.RF) (rb : T.RB) (d1 : List (List UInt8)) (d2 : List (List UInt8)) : Option Bool :=
  bif (((d1.length : Nat) : Int)) != (((d2.length : Nat) : Int)) then
    some false
  else
    (k28 rb d1 d2 0).bind fun (z1 : Bool ⊕ Unit) =>
    match z1 with
    | .inl u2 =>
      some u2
    | .inr w3 =>
      some true
theorem er22 (rf : T.RF) (rb : T.RB) (d1 : List (List UInt8)) (d2 : List (List UInt8)) : T.stepF rf rb 22 (d1, d2) = r22 rf rb d1 d2 := by kernel_rfl
theorem or22 {d1 : List (List UInt8)} {d2 : List (List UInt8)} {y : Bool} (h : r22 T.rf T.rb d1 d2 = some y) : c22 T.rf d1 d2 = some y := T.rf_of (f := 22) (d := (d1, d2)) ((er22 T.rf T.rb d1 d2).trans h)

/- bailmentlaw03.live -/
noncomputable def r2 (rf : T.RF) (rb : T.RB) : Option Bool :=
  (c3 rf 3 0 ([97] : List UInt8) []).bind fun (y1 : List (Int × Int × Int × Int × Int × List UInt8)) =>
  (c3 rf 1 7 ([] : List UInt8) []).bind fun (y2 : List (Int × Int × Int × Int × Int × List UInt8)) =>
  (c3 rf 13 0 ([] : List UInt8) [y1, y2]).bind fun (y3 : List (Int × Int × Int × Int × Int × List UInt8)) =>
  (c3 rf 27 0 ([102] : List UInt8) [y1, y3]).bind fun (y4 : List (Int × Int × Int × Int × Int × List UInt8)) =>
  bif (((y3.length : Nat) : Int)) != 3 then
    some false
  else
  bif (((y4.length : Nat) : Int)) != 7 then
    some false
  else
    (c7 rf y3 [([97] : List UInt8)] [y4]).bind fun (y5 : List (Int × Int × Int × Int × Int × List UInt8)) =>
    (c3 rf 13 0 ([] : List UInt8) [y1]).bind fun (y6 : List (Int × Int × Int × Int × Int × List UInt8)) =>
    bif inb 2 y3.length then
      (nth y3 2).bind fun (x7 : Int × Int × Int × Int × Int × List UInt8) =>
      bif (x7.1 == 13) && ((x7.2.1 == 0) && ((x7.2.2.1 == 1) && ((x7.2.2.2.1 == (-1)) && ((x7.2.2.2.2.1 == 0) && (x7.2.2.2.2.2 == ([] : List UInt8)))))) then
        bif inb 6 y4.length then
          (nth y4 6).bind fun (x8 : Int × Int × Int × Int × Int × List UInt8) =>
          bif (x8.1 == 27) && ((x8.2.1 == 5) && ((x8.2.2.1 == (-1)) && ((x8.2.2.2.1 == (-1)) && ((x8.2.2.2.2.1 == 0) && (x8.2.2.2.2.2 == ([102] : List UInt8)))))) then
            bif inb 5 y4.length then
              (nth y4 5).bind fun (x9 : Int × Int × Int × Int × Int × List UInt8) =>
              bif (x9.1 == 28) && ((x9.2.1 == 4) && ((x9.2.2.1 == 1) && ((x9.2.2.2.1 == (-1)) && ((x9.2.2.2.2.1 == 0) && (x9.2.2.2.2.2 == ([] : List UInt8)))))) then
                (c8 rf y4).bind fun (y10 : Bool) =>
                bif y10 then
                  (c12 rf y3).bind fun (y11 : Int) =>
                  bif y11 == 2 then
                    (c17 rf y4 4).bind fun (y12 : List (Int × Int × Int × Int × Int × List UInt8)) =>
                    (c20 rf y12 y3).bind fun (y13 : Bool) =>
                    bif y13 then
                      (c21 rf y4).bind fun (y14 : List (List UInt8)) =>
                      (c22 rf y14 [([97] : List UInt8)]).bind fun (y15 : Bool) =>
                      bif y15 then
                        bif (((y5.length : Nat) : Int)) == 9 then
                          bif (((y6.length : Nat) : Int)) == 0 then
                            bif inb 5 y4.length then
                              (nth y4 5).bind fun (x16 : Int × Int × Int × Int × Int × List UInt8) =>
                              (c4 rf x16).bind fun (y17 : List Int) =>
                              some ((((y17.length : Nat) : Int)) == 2)
                            else
                              none
                          else
                            some false
                        else
                          some false
                      else
                        some false
                    else
                      some false
                  else
                    some false
                else
                  some false
              else
                some false
            else
              none
          else
            some false
        else
          none
      else
        some false
    else
      none
theorem er2 (rf : T.RF) (rb : T.RB) : T.stepF rf rb 2 () = r2 rf rb := by kernel_rfl
theorem or2 {y : Bool} (h : r2 T.rf T.rb = some y) : c2 T.rf = some y := T.rf_of (f := 2) (d := ()) ((er2 T.rf T.rb).trans h)

/- bailmentref03.Kids -/
noncomputable def r23 (rf : T.RF) (rb : T.RB) (d1 : Int × Int × Int × Int × Int × List UInt8) : Option (List Int) :=
  bif d1.1 == 4 then
    bif d1.1 == 4 then
      some [d1.2.1]
    else
    bif d1.1 == 26 then
      some [d1.2.1, d1.2.2.1, d1.2.2.2.1]
    else
    bif d1.1 == 27 then
      bif d1.2.1 != (-1) then
        some [d1.2.1]
      else
        some []
    else
    bif d1.1 == 28 then
      bif d1.2.2.1 != (-1) then
        some [d1.2.2.1, d1.2.1]
      else
        some [d1.2.1]
    else
    bif decide (d1.1 ≥ 6) then
      bif decide (d1.1 ≤ 20) then
        some [d1.2.1, d1.2.2.1]
      else
        some []
    else
      some []
  else
  bif d1.1 == 5 then
    bif d1.1 == 5 then
      some [d1.2.1]
    else
    bif d1.1 == 26 then
      some [d1.2.1, d1.2.2.1, d1.2.2.2.1]
    else
    bif d1.1 == 27 then
      bif d1.2.1 != (-1) then
        some [d1.2.1]
      else
        some []
    else
    bif d1.1 == 28 then
      bif d1.2.2.1 != (-1) then
        some [d1.2.2.1, d1.2.1]
      else
        some [d1.2.1]
    else
    bif decide (d1.1 ≥ 6) then
      bif decide (d1.1 ≤ 20) then
        some [d1.2.1, d1.2.2.1]
      else
        some []
    else
      some []
  else
  bif d1.1 == 21 then
    bif d1.1 == 21 then
      some [d1.2.1]
    else
    bif d1.1 == 26 then
      some [d1.2.1, d1.2.2.1, d1.2.2.2.1]
    else
    bif d1.1 == 27 then
      bif d1.2.1 != (-1) then
        some [d1.2.1]
      else
        some []
    else
    bif d1.1 == 28 then
      bif d1.2.2.1 != (-1) then
        some [d1.2.2.1, d1.2.1]
      else
        some [d1.2.1]
    else
    bif decide (d1.1 ≥ 6) then
      bif decide (d1.1 ≤ 20) then
        some [d1.2.1, d1.2.2.1]
      else
        some []
    else
      some []
  else
  bif d1.1 == 22 then
    bif d1.1 == 22 then
      some [d1.2.1]
    else
    bif d1.1 == 26 then
      some [d1.2.1, d1.2.2.1, d1.2.2.2.1]
    else
    bif d1.1 == 27 then
      bif d1.2.1 != (-1) then
        some [d1.2.1]
      else
        some []
    else
    bif d1.1 == 28 then
      bif d1.2.2.1 != (-1) then
        some [d1.2.2.1, d1.2.1]
      else
        some [d1.2.1]
    else
    bif decide (d1.1 ≥ 6) then
      bif decide (d1.1 ≤ 20) then
        some [d1.2.1, d1.2.2.1]
      else
        some []
    else
      some []
  else
  bif d1.1 == 23 then
    bif d1.1 == 23 then
      some [d1.2.1]
    else
    bif d1.1 == 26 then
      some [d1.2.1, d1.2.2.1, d1.2.2.2.1]
    else
    bif d1.1 == 27 then
      bif d1.2.1 != (-1) then
        some [d1.2.1]
      else
        some []
    else
    bif d1.1 == 28 then
      bif d1.2.2.1 != (-1) then
        some [d1.2.2.1, d1.2.1]
      else
        some [d1.2.1]
    else
    bif decide (d1.1 ≥ 6) then
      bif decide (d1.1 ≤ 20) then
        some [d1.2.1, d1.2.2.1]
      else
        some []
    else
      some []
  else
  bif d1.1 == 24 then
    bif d1.1 == 24 then
      some [d1.2.1]
    else
    bif d1.1 == 26 then
      some [d1.2.1, d1.2.2.1, d1.2.2.2.1]
    else
    bif d1.1 == 27 then
      bif d1.2.1 != (-1) then
        some [d1.2.1]
      else
        some []
    else
    bif d1.1 == 28 then
      bif d1.2.2.1 != (-1) then
        some [d1.2.2.1, d1.2.1]
      else
        some [d1.2.1]
    else
    bif decide (d1.1 ≥ 6) then
      bif decide (d1.1 ≤ 20) then
        some [d1.2.1, d1.2.2.1]
      else
        some []
    else
      some []
  else
  bif d1.1 == 25 then
    some [d1.2.1]
  else
  bif d1.1 == 26 then
    some [d1.2.1, d1.2.2.1, d1.2.2.2.1]
  else
  bif d1.1 == 27 then
    bif d1.2.1 != (-1) then
      some [d1.2.1]
    else
      some []
  else
  bif d1.1 == 28 then
    bif d1.2.2.1 != (-1) then
      some [d1.2.2.1, d1.2.1]
    else
      some [d1.2.1]
  else
  bif decide (d1.1 ≥ 6) then
    bif decide (d1.1 ≤ 20) then
      some [d1.2.1, d1.2.2.1]
    else
      some []
  else
    some []
theorem er23 (rf : T.RF) (rb : T.RB) (d1 : Int × Int × Int × Int × Int × List UInt8) : T.stepF rf rb 23 d1 = r23 rf rb d1 := by kernel_rfl
theorem or23 {d1 : Int × Int × Int × Int × Int × List UInt8} {y : (List Int)} (h : r23 T.rf T.rb d1 = some y) : c23 T.rf d1 = some y := T.rf_of (f := 23) (d := d1) ((er23 T.rf T.rb d1).trans h)

/- bailmentref03.Ints loop 0 -/
noncomputable def b30 (rf : T.RF) (rb : T.RB) (d1 : List Int) (d2 : List Int) (d3 : Int) : Option (Bool ⊕ Unit) :=
  bif decide (d3 < (((d1.length : Nat) : Int))) then
    bif inb d3 d1.length then
      (nth d1 d3.toNat).bind fun (x1 : Int) =>
      bif inb d3 d2.length then
        (nth d2 d3.toNat).bind fun (x2 : Int) =>
        bif x1 != x2 then
          some (.inl false)
        else
          k30 rb d1 d2 (IntKind.i64.wrap (d3 + 1))
      else
        none
    else
      none
  else
    some (.inr ())
theorem eb30 (rf : T.RF) (rb : T.RB) (d1 : List Int) (d2 : List Int) (d3 : Int) : T.stepB rf rb 30 (d1, d2, d3) = b30 rf rb d1 d2 d3 := by kernel_rfl
theorem ob30 {d1 : List Int} {d2 : List Int} {d3 : Int} {y : (Bool ⊕ Unit)} (h : b30 T.rf T.rb d1 d2 d3 = some y) : k30 T.rb d1 d2 d3 = some y := T.rb_of (κ := 30) (d := (d1, d2, d3)) ((eb30 T.rf T.rb d1 d2 d3).trans h)

/- bailmentref03.Ints -/
noncomputable def r24 (rf : T.RF) (rb : T.RB) (d1 : List Int) (d2 : List Int) : Option Bool :=
  bif (((d1.length : Nat) : Int)) != (((d2.length : Nat) : Int)) then
    some false
  else
    (k30 rb d1 d2 0).bind fun (z1 : Bool ⊕ Unit) =>
    match z1 with
    | .inl u2 =>
      some u2
    | .inr w3 =>
      some true
theorem er24 (rf : T.RF) (rb : T.RB) (d1 : List Int) (d2 : List Int) : T.stepF rf rb 24 (d1, d2) = r24 rf rb d1 d2 := by kernel_rfl
theorem or24 {d1 : List Int} {d2 : List Int} {y : Bool} (h : r24 T.rf T.rb d1 d2 = some y) : c24 T.rf d1 d2 = some y := T.rf_of (f := 24) (d := (d1, d2)) ((er24 T.rf T.rb d1 d2).trans h)

/- bailmentref03.bare -/
noncomputable def r26 (rf : T.RF) (rb : T.RB) (d1 : Int × Int × Int × Int × Int × List UInt8) : Option Bool :=
  (c23 rf d1).bind fun (y1 : List Int) =>
  bif d1.1 == 27 then
    bif d1.2.2.1 == (-1) then
      some (d1.2.2.2.1 == (-1))
    else
      some false
  else
  bif d1.1 == 28 then
    some (d1.2.2.2.1 == (-1))
  else
  bif decide ((((y1.length : Nat) : Int)) > 0) then
    bif decide ((((y1.length : Nat) : Int)) > 1) then
      bif decide ((((y1.length : Nat) : Int)) > 2) then
        some true
      else
        some (d1.2.2.2.1 == (-1))
    else
    bif d1.2.2.1 == (-1) then
      bif decide ((((y1.length : Nat) : Int)) > 2) then
        some true
      else
        some (d1.2.2.2.1 == (-1))
    else
      some false
  else
  bif d1.2.1 == (-1) then
    bif decide ((((y1.length : Nat) : Int)) > 1) then
      bif decide ((((y1.length : Nat) : Int)) > 2) then
        some true
      else
        some (d1.2.2.2.1 == (-1))
    else
    bif d1.2.2.1 == (-1) then
      bif decide ((((y1.length : Nat) : Int)) > 2) then
        some true
      else
        some (d1.2.2.2.1 == (-1))
    else
      some false
  else
    some false
theorem er26 (rf : T.RF) (rb : T.RB) (d1 : Int × Int × Int × Int × Int × List UInt8) : T.stepF rf rb 26 d1 = r26 rf rb d1 := by kernel_rfl
theorem or26 {d1 : Int × Int × Int × Int × Int × List UInt8} {y : Bool} (h : r26 T.rf T.rb d1 = some y) : c26 T.rf d1 = some y := T.rf_of (f := 26) (d := d1) ((er26 T.rf T.rb d1).trans h)

/- bailmentref03.plain -/
noncomputable def r27 (rf : T.RF) (rb : T.RB) (d1 : Int × Int × Int × Int × Int × List UInt8) : Option Bool :=
  bif d1.1 == 3 then
    bif !((!(d1.2.2.2.2.2 == ([] : List UInt8))) == true) then
      some false
    else
    bif d1.1 == 1 then
      bif decide (d1.2.2.2.2.1 ≥ 0) then
        some (decide (d1.2.2.2.2.1 ≤ 2147483647))
      else
        some false
    else
    bif d1.1 == 2 then
      bif d1.2.2.2.2.1 == 0 then
        some true
      else
        some (d1.2.2.2.2.1 == 1)
    else
    bif d1.1 == 25 then
      bif decide (d1.2.2.2.2.1 ≥ 0) then
        some (decide (d1.2.2.2.2.1 ≤ 1000))
      else
        some false
    else
      some (d1.2.2.2.2.1 == 0)
  else
  bif !((!(d1.2.2.2.2.2 == ([] : List UInt8))) == (d1.1 == 27)) then
    some false
  else
  bif d1.1 == 1 then
    bif decide (d1.2.2.2.2.1 ≥ 0) then
      some (decide (d1.2.2.2.2.1 ≤ 2147483647))
    else
      some false
  else
  bif d1.1 == 2 then
    bif d1.2.2.2.2.1 == 0 then
      some true
    else
      some (d1.2.2.2.2.1 == 1)
  else
  bif d1.1 == 25 then
    bif decide (d1.2.2.2.2.1 ≥ 0) then
      some (decide (d1.2.2.2.2.1 ≤ 1000))
    else
      some false
  else
    some (d1.2.2.2.2.1 == 0)
theorem er27 (rf : T.RF) (rb : T.RB) (d1 : Int × Int × Int × Int × Int × List UInt8) : T.stepF rf rb 27 d1 = r27 rf rb d1 := by kernel_rfl
theorem or27 {d1 : Int × Int × Int × Int × Int × List UInt8} {y : Bool} (h : r27 T.rf T.rb d1 = some y) : c27 T.rf d1 = some y := T.rf_of (f := 27) (d := d1) ((er27 T.rf T.rb d1).trans h)

/- bailmentref03.args loop 0 -/
noncomputable def b33 (rf : T.RF) (rb : T.RB) (d1 : Int × Int × Int × Int × Int × List UInt8) (d2 : List Int) (d3 : List (Int × Int × Int × Int × Int × List UInt8)) (d4 : Int) : Option (((Int × Int × Int × Int × Int × List UInt8) × List Int × Bool) ⊕ ((Int × Int × Int × Int × Int × List UInt8) × List Int)) :=
  bif decide (d4 < (((d2.length : Nat) : Int))) then
    bif inb d4 d2.length then
      (nth d2 d4.toNat).bind fun (x1 : Int) =>
      bif inb x1 d3.length then
        (nth d3 x1.toNat).bind fun (x2 : Int × Int × Int × Int × Int × List UInt8) =>
        bif d1.1 == 27 then
          bif !((x2.1 == 28) == true) then
            some (.inl (d1, d2, false))
          else
            k33 rb d1 d2 d3 (IntKind.i64.wrap (d4 + 1))
        else
        bif d1.1 == 28 then
          bif (((d2.length : Nat) : Int)) == 2 then
            bif !((x2.1 == 28) == (d4 == 0)) then
              some (.inl (d1, d2, false))
            else
              k33 rb d1 d2 d3 (IntKind.i64.wrap (d4 + 1))
          else
          bif !((x2.1 == 28) == false) then
            some (.inl (d1, d2, false))
          else
            k33 rb d1 d2 d3 (IntKind.i64.wrap (d4 + 1))
        else
        bif !((x2.1 == 28) == false) then
          some (.inl (d1, d2, false))
        else
          k33 rb d1 d2 d3 (IntKind.i64.wrap (d4 + 1))
      else
        none
    else
      none
  else
    some (.inr (d1, d2))
theorem eb33 (rf : T.RF) (rb : T.RB) (d1 : Int × Int × Int × Int × Int × List UInt8) (d2 : List Int) (d3 : List (Int × Int × Int × Int × Int × List UInt8)) (d4 : Int) : T.stepB rf rb 33 (d1, d2, d3, d4) = b33 rf rb d1 d2 d3 d4 := by kernel_rfl
theorem ob33 {d1 : Int × Int × Int × Int × Int × List UInt8} {d2 : List Int} {d3 : List (Int × Int × Int × Int × Int × List UInt8)} {d4 : Int} {y : (((Int × Int × Int × Int × Int × List UInt8) × List Int × Bool) ⊕ ((Int × Int × Int × Int × Int × List UInt8) × List Int))} (h : b33 T.rf T.rb d1 d2 d3 d4 = some y) : k33 T.rb d1 d2 d3 d4 = some y := T.rb_of (κ := 33) (d := (d1, d2, d3, d4)) ((eb33 T.rf T.rb d1 d2 d3 d4).trans h)

/- bailmentref03.args -/
noncomputable def r28 (rf : T.RF) (rb : T.RB) (d1 : List (Int × Int × Int × Int × Int × List UInt8)) (d2 : Int) : Option Bool :=
  bif inb d2 d1.length then
    (nth d1 d2.toNat).bind fun (x1 : Int × Int × Int × Int × Int × List UInt8) =>
    (c23 rf x1).bind fun (y2 : List Int) =>
    (k33 rb x1 y2 d1 0).bind fun (z3 : ((Int × Int × Int × Int × Int × List UInt8) × List Int × Bool) ⊕ ((Int × Int × Int × Int × Int × List UInt8) × List Int)) =>
    match z3 with
    | .inl u4 =>
      some u4.2.2
    | .inr w5 =>
      some true
  else
    none
theorem er28 (rf : T.RF) (rb : T.RB) (d1 : List (Int × Int × Int × Int × Int × List UInt8)) (d2 : Int) : T.stepF rf rb 28 (d1, d2) = r28 rf rb d1 d2 := by kernel_rfl
theorem or28 {d1 : List (Int × Int × Int × Int × Int × List UInt8)} {d2 : Int} {y : Bool} (h : r28 T.rf T.rb d1 d2 = some y) : c28 T.rf d1 d2 = some y := T.rf_of (f := 28) (d := (d1, d2)) ((er28 T.rf T.rb d1 d2).trans h)

/- bailmentref03.Depth loop 0 -/
noncomputable def b41 (rf : T.RF) (rb : T.RB) (d1 : List Int) (d2 : List (Int × Int × Int × Int × Int × List UInt8)) (d3 : Int) : Option (List Int) :=
  bif decide (d3 < (((d2.length : Nat) : Int))) then
    bif inb d3 d1.length then
      bif Nat.blt d3.toNat d1.length then
        bif inb d3 d2.length then
          (nth d2 d3.toNat).bind fun (x1 : Int × Int × Int × Int × Int × List UInt8) =>
          (c23 rf x1).bind fun (y2 : List Int) =>
          (k42 rb (setNth d1 d3.toNat 1) y2 d3 0).bind fun (z3 : List Int × List Int) =>
          k41 rb z3.1 d2 (IntKind.i64.wrap (d3 + 1))
        else
          none
      else
        none
    else
      none
  else
    some d1
theorem eb41 (rf : T.RF) (rb : T.RB) (d1 : List Int) (d2 : List (Int × Int × Int × Int × Int × List UInt8)) (d3 : Int) : T.stepB rf rb 41 (d1, d2, d3) = b41 rf rb d1 d2 d3 := by kernel_rfl
theorem ob41 {d1 : List Int} {d2 : List (Int × Int × Int × Int × Int × List UInt8)} {d3 : Int} {y : (List Int)} (h : b41 T.rf T.rb d1 d2 d3 = some y) : k41 T.rb d1 d2 d3 = some y := T.rb_of (κ := 41) (d := (d1, d2, d3)) ((eb41 T.rf T.rb d1 d2 d3).trans h)

/- bailmentref03.Depth loop 2 -/
noncomputable def b42q (rf : T.RF) (rb : T.RB) (d1 : List Int) (d2 : List Int) (d3 : Int) (d4 : Int) : Option (List Int × List Int) :=
  bif decide (d4 < (((d2.length : Nat) : Int))) then
    bif inb d4 d2.length then
      (nth d2 d4.toNat).bind fun (x1 : Int) =>
      bif decide (x1 ≥ 0) then
        bif inb d4 d2.length then
          (nth d2 d4.toNat).bind fun (x2 : Int) =>
          bif decide (x2 < d3) then
            bif inb d3 d1.length then
              bif inb d4 d2.length then
                (nth d2 d4.toNat).bind fun (x3 : Int) =>
                bif inb x3 d1.length then
                  agree (
                    (nth d1 d3.toNat).bind fun (x4 : Int) =>
                    (nth d1 x3.toNat).bind fun (x5 : Int) =>
                    bif inb d3 d1.length then
                      bif Nat.blt d3.toNat d1.length then
                        k42 rb (setNth d1 d3.toNat (if (IntKind.i64.wrap (x5 + 1)) > x4 then (IntKind.i64.wrap (x5 + 1)) else x4)) d2 d3 (IntKind.i64.wrap (d4 + 1))
                      else
                        none
                    else
                      none
                  ) (
                    (nth d1 x3.toNat).bind fun (x4 : Int) =>
                    (nth d1 d3.toNat).bind fun (x5 : Int) =>
                    bif inb d3 d1.length then
                      bif Nat.blt d3.toNat d1.length then
                        k42 rb (setNth d1 d3.toNat (if (IntKind.i64.wrap (x4 + 1)) > x5 then (IntKind.i64.wrap (x4 + 1)) else x5)) d2 d3 (IntKind.i64.wrap (d4 + 1))
                      else
                        none
                    else
                      none
                  )
                else
                  none
              else
                none
            else
              none
          else
            k42 rb d1 d2 d3 (IntKind.i64.wrap (d4 + 1))
        else
          none
      else
        k42 rb d1 d2 d3 (IntKind.i64.wrap (d4 + 1))
    else
      none
  else
    some (d1, d2)
noncomputable def b42 (rf : T.RF) (rb : T.RB) (d1 : List Int) (d2 : List Int) (d3 : Int) (d4 : Int) : Option (List Int × List Int) :=
  bif decide (d4 < (((d2.length : Nat) : Int))) then
    bif inb d4 d2.length then
      (nth d2 d4.toNat).bind fun (x1 : Int) =>
      bif decide (x1 ≥ 0) then
        bif inb d4 d2.length then
          (nth d2 d4.toNat).bind fun (x2 : Int) =>
          bif decide (x2 < d3) then
            bif inb d3 d1.length then
              bif inb d4 d2.length then
                (nth d2 d4.toNat).bind fun (x3 : Int) =>
                bif inb x3 d1.length then
                  (nth d1 d3.toNat).bind fun (x4 : Int) =>
                  (nth d1 x3.toNat).bind fun (x5 : Int) =>
                  bif inb d3 d1.length then
                    bif Nat.blt d3.toNat d1.length then
                      k42 rb (setNth d1 d3.toNat (if (IntKind.i64.wrap (x5 + 1)) > x4 then (IntKind.i64.wrap (x5 + 1)) else x4)) d2 d3 (IntKind.i64.wrap (d4 + 1))
                    else
                      none
                  else
                    none
                else
                  none
              else
                none
            else
              none
          else
            k42 rb d1 d2 d3 (IntKind.i64.wrap (d4 + 1))
        else
          none
      else
        k42 rb d1 d2 d3 (IntKind.i64.wrap (d4 + 1))
    else
      none
  else
    some (d1, d2)
theorem eb42 (rf : T.RF) (rb : T.RB) (d1 : List Int) (d2 : List Int) (d3 : Int) (d4 : Int) : T.stepB rf rb 42 (d1, d2, d3, d4) = b42q rf rb d1 d2 d3 d4 := by kernel_rfl
theorem sb42 (rf : T.RF) (rb : T.RB) (d1 : List Int) (d2 : List Int) (d3 : Int) (d4 : Int) : b42q rf rb d1 d2 d3 d4 = b42 rf rb d1 d2 d3 d4 := by
  unfold b42q b42; simp only [agN_eq, agree_self, agree_swap]
theorem ob42 {d1 : List Int} {d2 : List Int} {d3 : Int} {d4 : Int} {y : (List Int × List Int)} (h : b42 T.rf T.rb d1 d2 d3 d4 = some y) : k42 T.rb d1 d2 d3 d4 = some y := T.rb_of (κ := 42) (d := (d1, d2, d3, d4)) (((eb42 T.rf T.rb d1 d2 d3 d4).trans (sb42 T.rf T.rb d1 d2 d3 d4)).trans h)

/- bailmentref03.Depth -/
noncomputable def r29 (rf : T.RF) (rb : T.RB) (d1 : List (Int × Int × Int × Int × Int × List UInt8)) : Option Int :=
  bif inb' (((d1.length : Nat) : Int)) most then
    bif inb' (((d1.length : Nat) : Int)) d1.length then
      (k41 rb (List.replicate d1.length 0) d1 0).bind fun (z1 : List Int) =>
      bif (((d1.length : Nat) : Int)) == 0 then
        some 0
      else
      bif inb (IntKind.i64.wrap ((((d1.length : Nat) : Int)) - 1)) z1.length then
        (nth z1 (IntKind.i64.wrap ((((d1.length : Nat) : Int)) - 1)).toNat).bind fun (x2 : Int) =>
        some x2
      else
        none
    else
      none
  else
    none
theorem er29 (rf : T.RF) (rb : T.RB) (d1 : List (Int × Int × Int × Int × Int × List UInt8)) : T.stepF rf rb 29 d1 = r29 rf rb d1 := by kernel_rfl
theorem or29 {d1 : List (Int × Int × Int × Int × Int × List UInt8)} {y : Int} (h : r29 T.rf T.rb d1 = some y) : c29 T.rf d1 = some y := T.rf_of (f := 29) (d := d1) ((er29 T.rf T.rb d1).trans h)

/- bailmentref03.May loop 0 -/
noncomputable def b31 (rf : T.RF) (rb : T.RB) (d1 : List Int) (d2 : List (Int × Int × Int × Int × Int × List UInt8)) (d3 : Int) : Option ((List Int × Bool) ⊕ (List Int)) :=
  bif decide (d3 < (((d2.length : Nat) : Int))) then
    bif inb d3 d2.length then
      (nth d2 d3.toNat).bind fun (x1 : Int × Int × Int × Int × Int × List UInt8) =>
      bif decide (x1.1 < 1) then
        some (.inl (d1, false))
      else
      bif inb d3 d2.length then
        (nth d2 d3.toNat).bind fun (x2 : Int × Int × Int × Int × Int × List UInt8) =>
        bif decide (x2.1 > 28) then
          some (.inl (d1, false))
        else
        bif inb d3 d2.length then
          (nth d2 d3.toNat).bind fun (x3 : Int × Int × Int × Int × Int × List UInt8) =>
          (c26 rf x3).bind fun (y4 : Bool) =>
          bif !y4 then
            some (.inl (d1, false))
          else
          bif inb d3 d2.length then
            (nth d2 d3.toNat).bind fun (x5 : Int × Int × Int × Int × Int × List UInt8) =>
            (c27 rf x5).bind fun (y6 : Bool) =>
            bif !y6 then
              some (.inl (d1, false))
            else
            bif inb d3 d2.length then
              (nth d2 d3.toNat).bind fun (x7 : Int × Int × Int × Int × Int × List UInt8) =>
              (c23 rf x7).bind fun (y8 : List Int) =>
              (k32 rb d1 y8 d3 0).bind fun (z9 : (List Int × List Int × Bool) ⊕ (List Int × List Int)) =>
              match z9 with
              | .inl u10 =>
                some (.inl (u10.1, u10.2.2))
              | .inr w11 =>
                (c28 rf d2 d3).bind fun (y12 : Bool) =>
                bif !y12 then
                  some (.inl (w11.1, false))
                else
                  k31 rb w11.1 d2 (IntKind.i64.wrap (d3 + 1))
            else
              none
          else
            none
        else
          none
      else
        none
    else
      none
  else
    some (.inr d1)
theorem eb31 (rf : T.RF) (rb : T.RB) (d1 : List Int) (d2 : List (Int × Int × Int × Int × Int × List UInt8)) (d3 : Int) : T.stepB rf rb 31 (d1, d2, d3) = b31 rf rb d1 d2 d3 := by kernel_rfl
theorem ob31 {d1 : List Int} {d2 : List (Int × Int × Int × Int × Int × List UInt8)} {d3 : Int} {y : ((List Int × Bool) ⊕ (List Int))} (h : b31 T.rf T.rb d1 d2 d3 = some y) : k31 T.rb d1 d2 d3 = some y := T.rb_of (κ := 31) (d := (d1, d2, d3)) ((eb31 T.rf T.rb d1 d2 d3).trans h)

/- bailmentref03.May loop 2 -/
noncomputable def b32 (rf : T.RF) (rb : T.RB) (d1 : List Int) (d2 : List Int) (d3 : Int) (d4 : Int) : Option ((List Int × List Int × Bool) ⊕ (List Int × List Int)) :=
  bif decide (d4 < (((d2.length : Nat) : Int))) then
    bif inb d4 d2.length then
      (nth d2 d4.toNat).bind fun (x1 : Int) =>
      bif decide (x1 < 0) then
        some (.inl (d1, d2, false))
      else
      bif inb d4 d2.length then
        (nth d2 d4.toNat).bind fun (x2 : Int) =>
        bif decide (x2 ≥ d3) then
          some (.inl (d1, d2, false))
        else
        bif inb d4 d2.length then
          (nth d2 d4.toNat).bind fun (x3 : Int) =>
          bif inb x3 d1.length then
            (nth d1 x3.toNat).bind fun (x4 : Int) =>
            bif inb x3 d1.length then
              bif Nat.blt x3.toNat d1.length then
                k32 rb (setNth d1 x3.toNat (IntKind.i64.wrap (x4 + 1))) d2 d3 (IntKind.i64.wrap (d4 + 1))
              else
                none
            else
              none
          else
            none
        else
          none
      else
        none
    else
      none
  else
    some (.inr (d1, d2))
theorem eb32 (rf : T.RF) (rb : T.RB) (d1 : List Int) (d2 : List Int) (d3 : Int) (d4 : Int) : T.stepB rf rb 32 (d1, d2, d3, d4) = b32 rf rb d1 d2 d3 d4 := by kernel_rfl
theorem ob32 {d1 : List Int} {d2 : List Int} {d3 : Int} {d4 : Int} {y : ((List Int × List Int × Bool) ⊕ (List Int × List Int))} (h : b32 T.rf T.rb d1 d2 d3 d4 = some y) : k32 T.rb d1 d2 d3 d4 = some y := T.rb_of (κ := 32) (d := (d1, d2, d3, d4)) ((eb32 T.rf T.rb d1 d2 d3 d4).trans h)

/- bailmentref03.May loop 4 -/
noncomputable def b34 (rf : T.RF) (rb : T.RB) (d1 : List Int) (d2 : List (Int × Int × Int × Int × Int × List UInt8)) (d3 : Int) : Option ((List Int × Bool) ⊕ (List Int)) :=
  bif decide (d3 < (IntKind.i64.wrap ((((d2.length : Nat) : Int)) - 1))) then
    bif inb d3 d1.length then
      (nth d1 d3.toNat).bind fun (x1 : Int) =>
      bif x1 != 1 then
        some (.inl (d1, false))
      else
        k34 rb d1 d2 (IntKind.i64.wrap (d3 + 1))
    else
      none
  else
    some (.inr d1)
theorem eb34 (rf : T.RF) (rb : T.RB) (d1 : List Int) (d2 : List (Int × Int × Int × Int × Int × List UInt8)) (d3 : Int) : T.stepB rf rb 34 (d1, d2, d3) = b34 rf rb d1 d2 d3 := by kernel_rfl
theorem ob34 {d1 : List Int} {d2 : List (Int × Int × Int × Int × Int × List UInt8)} {d3 : Int} {y : ((List Int × Bool) ⊕ (List Int))} (h : b34 T.rf T.rb d1 d2 d3 = some y) : k34 T.rb d1 d2 d3 = some y := T.rb_of (κ := 34) (d := (d1, d2, d3)) ((eb34 T.rf T.rb d1 d2 d3).trans h)

/- bailmentref03.May -/
noncomputable def r25 (rf : T.RF) (rb : T.RB) (d1 : List (Int × Int × Int × Int × Int × List UInt8)) : Option Bool :=
  bif decide ((((d1.length : Nat) : Int)) < 1) then
    some false
  else
  bif decide ((((d1.length : Nat) : Int)) > 5000) then
    some false
  else
  bif inb' (((d1.length : Nat) : Int)) most then
    bif inb' (((d1.length : Nat) : Int)) d1.length then
      (k31 rb (List.replicate d1.length 0) d1 0).bind fun (z1 : (List Int × Bool) ⊕ (List Int)) =>
      match z1 with
      | .inl u2 =>
        some u2.2
      | .inr w3 =>
        (k34 rb w3 d1 0).bind fun (z4 : (List Int × Bool) ⊕ (List Int)) =>
        match z4 with
        | .inl u5 =>
          some u5.2
        | .inr w6 =>
          bif inb (IntKind.i64.wrap ((((d1.length : Nat) : Int)) - 1)) d1.length then
            (nth d1 (IntKind.i64.wrap ((((d1.length : Nat) : Int)) - 1)).toNat).bind fun (x7 : Int × Int × Int × Int × Int × List UInt8) =>
            bif x7.1 != 28 then
              (c29 rf d1).bind fun (y8 : Int) =>
              some (decide (y8 ≤ 40))
            else
              some false
          else
            none
    else
      none
  else
    none
theorem er25 (rf : T.RF) (rb : T.RB) (d1 : List (Int × Int × Int × Int × Int × List UInt8)) : T.stepF rf rb 25 d1 = r25 rf rb d1 := by kernel_rfl
theorem or25 {d1 : List (Int × Int × Int × Int × Int × List UInt8)} {y : Bool} (h : r25 T.rf T.rb d1 = some y) : c25 T.rf d1 = some y := T.rf_of (f := 25) (d := d1) ((er25 T.rf T.rb d1).trans h)

/- bailmentref03.aim -/
noncomputable def r32 (rf : T.RF) (rb : T.RB) (d1 : Int × Int × Int × Int × Int × List UInt8) (d2 : List Int) : Option (Int × Int × Int × Int × Int × List UInt8) :=
  bif d1.1 == 28 then
    bif (((d2.length : Nat) : Int)) == 2 then
      bif inb 0 d2.length then
        (nth d2 0).bind fun (x1 : Int) =>
        bif inb 1 d2.length then
          (nth d2 1).bind fun (x2 : Int) =>
          some (d1.1, x2, x1, d1.2.2.2)
        else
          none
      else
        none
    else
    bif decide ((((d2.length : Nat) : Int)) > 0) then
      bif inb 0 d2.length then
        (nth d2 0).bind fun (x3 : Int) =>
        bif decide ((((d2.length : Nat) : Int)) > 1) then
          bif inb 1 d2.length then
            (nth d2 1).bind fun (x4 : Int) =>
            bif decide ((((d2.length : Nat) : Int)) > 2) then
              bif inb 2 d2.length then
                (nth d2 2).bind fun (x5 : Int) =>
                some (d1.1, x3, x4, x5, d1.2.2.2.2)
              else
                none
            else
              some (d1.1, x3, x4, d1.2.2.2)
          else
            none
        else
        bif decide ((((d2.length : Nat) : Int)) > 2) then
          bif inb 2 d2.length then
            (nth d2 2).bind fun (x6 : Int) =>
            some (d1.1, x3, d1.2.2.1, x6, d1.2.2.2.2)
          else
            none
        else
          some (d1.1, x3, d1.2.2)
      else
        none
    else
    bif decide ((((d2.length : Nat) : Int)) > 1) then
      bif inb 1 d2.length then
        (nth d2 1).bind fun (x7 : Int) =>
        bif decide ((((d2.length : Nat) : Int)) > 2) then
          bif inb 2 d2.length then
            (nth d2 2).bind fun (x8 : Int) =>
            some (d1.1, d1.2.1, x7, x8, d1.2.2.2.2)
          else
            none
        else
          some (d1.1, d1.2.1, x7, d1.2.2.2)
      else
        none
    else
    bif decide ((((d2.length : Nat) : Int)) > 2) then
      bif inb 2 d2.length then
        (nth d2 2).bind fun (x9 : Int) =>
        some (d1.1, d1.2.1, d1.2.2.1, x9, d1.2.2.2.2)
      else
        none
    else
      some d1
  else
  bif decide ((((d2.length : Nat) : Int)) > 0) then
    bif inb 0 d2.length then
      (nth d2 0).bind fun (x10 : Int) =>
      bif decide ((((d2.length : Nat) : Int)) > 1) then
        bif inb 1 d2.length then
          (nth d2 1).bind fun (x11 : Int) =>
          bif decide ((((d2.length : Nat) : Int)) > 2) then
            bif inb 2 d2.length then
              (nth d2 2).bind fun (x12 : Int) =>
              some (d1.1, x10, x11, x12, d1.2.2.2.2)
            else
              none
          else
            some (d1.1, x10, x11, d1.2.2.2)
        else
          none
      else
      bif decide ((((d2.length : Nat) : Int)) > 2) then
        bif inb 2 d2.length then
          (nth d2 2).bind fun (x13 : Int) =>
          some (d1.1, x10, d1.2.2.1, x13, d1.2.2.2.2)
        else
          none
      else
        some (d1.1, x10, d1.2.2)
    else
      none
  else
  bif decide ((((d2.length : Nat) : Int)) > 1) then
    bif inb 1 d2.length then
      (nth d2 1).bind fun (x14 : Int) =>
      bif decide ((((d2.length : Nat) : Int)) > 2) then
        bif inb 2 d2.length then
          (nth d2 2).bind fun (x15 : Int) =>
          some (d1.1, d1.2.1, x14, x15, d1.2.2.2.2)
        else
          none
      else
        some (d1.1, d1.2.1, x14, d1.2.2.2)
    else
      none
  else
  bif decide ((((d2.length : Nat) : Int)) > 2) then
    bif inb 2 d2.length then
      (nth d2 2).bind fun (x16 : Int) =>
      some (d1.1, d1.2.1, d1.2.2.1, x16, d1.2.2.2.2)
    else
      none
  else
    some d1
theorem er32 (rf : T.RF) (rb : T.RB) (d1 : Int × Int × Int × Int × Int × List UInt8) (d2 : List Int) : T.stepF rf rb 32 (d1, d2) = r32 rf rb d1 d2 := by kernel_rfl
theorem or32 {d1 : Int × Int × Int × Int × Int × List UInt8} {d2 : List Int} {y : (Int × Int × Int × Int × Int × List UInt8)} (h : r32 T.rf T.rb d1 d2 = some y) : c32 T.rf d1 d2 = some y := T.rf_of (f := 32) (d := (d1, d2)) ((er32 T.rf T.rb d1 d2).trans h)

/- bailmentref03.order loop 0 -/
noncomputable def b44 (rf : T.RF) (rb : T.RB) (d1 : List (Int × Int × Int × Int × Int × List UInt8)) (d2 : List Int) (d3 : List Int) (d4 : List (Int × Int × Int × Int × Int × List UInt8)) (d5 : Int) : Option (List Int × List (Int × Int × Int × Int × Int × List UInt8) × List Int) :=
  bif decide (d5 < (((d2.length : Nat) : Int))) then
    bif inb d5 d2.length then
      (nth d2 d5.toNat).bind fun (x1 : Int) =>
      (c31 rf d1 d4 x1).bind fun (y2 : List (Int × Int × Int × Int × Int × List UInt8)) =>
      bif (Nat.ble (d3.length + 1) most) && true then
        k44 rb y2 d2 (d3 ++ [IntKind.i64.wrap ((((y2.length : Nat) : Int)) - 1)]) d4 (IntKind.i64.wrap (d5 + 1))
      else
        none
    else
      none
  else
    some (d2, d1, d3)
theorem eb44 (rf : T.RF) (rb : T.RB) (d1 : List (Int × Int × Int × Int × Int × List UInt8)) (d2 : List Int) (d3 : List Int) (d4 : List (Int × Int × Int × Int × Int × List UInt8)) (d5 : Int) : T.stepB rf rb 44 (d1, d2, d3, d4, d5) = b44 rf rb d1 d2 d3 d4 d5 := by kernel_rfl
theorem ob44 {d1 : List (Int × Int × Int × Int × Int × List UInt8)} {d2 : List Int} {d3 : List Int} {d4 : List (Int × Int × Int × Int × Int × List UInt8)} {d5 : Int} {y : (List Int × List (Int × Int × Int × Int × Int × List UInt8) × List Int)} (h : b44 T.rf T.rb d1 d2 d3 d4 d5 = some y) : k44 T.rb d1 d2 d3 d4 d5 = some y := T.rb_of (κ := 44) (d := (d1, d2, d3, d4, d5)) ((eb44 T.rf T.rb d1 d2 d3 d4 d5).trans h)

/- bailmentref03.order -/
noncomputable def r31 (rf : T.RF) (rb : T.RB) (d1 : List (Int × Int × Int × Int × Int × List UInt8)) (d2 : List (Int × Int × Int × Int × Int × List UInt8)) (d3 : Int) : Option (List (Int × Int × Int × Int × Int × List UInt8)) :=
  bif inb d3 d2.length then
    (nth d2 d3.toNat).bind fun (x1 : Int × Int × Int × Int × Int × List UInt8) =>
    (c23 rf x1).bind fun (y2 : List Int) =>
    (k44 rb d1 y2 [] d2 0).bind fun (z3 : List Int × List (Int × Int × Int × Int × Int × List UInt8) × List Int) =>
    bif inb d3 d2.length then
      (nth d2 d3.toNat).bind fun (x4 : Int × Int × Int × Int × Int × List UInt8) =>
      (c32 rf x4 z3.2.2).bind fun (y5 : Int × Int × Int × Int × Int × List UInt8) =>
      bif (Nat.ble (z3.2.1.length + 1) most) && true then
        some (z3.2.1 ++ [y5])
      else
        none
    else
      none
  else
    none
theorem er31 (rf : T.RF) (rb : T.RB) (d1 : List (Int × Int × Int × Int × Int × List UInt8)) (d2 : List (Int × Int × Int × Int × Int × List UInt8)) (d3 : Int) : T.stepF rf rb 31 (d1, d2, d3) = r31 rf rb d1 d2 d3 := by kernel_rfl
theorem or31 {d1 : List (Int × Int × Int × Int × Int × List UInt8)} {d2 : List (Int × Int × Int × Int × Int × List UInt8)} {d3 : Int} {y : (List (Int × Int × Int × Int × Int × List UInt8))} (h : r31 T.rf T.rb d1 d2 d3 = some y) : c31 T.rf d1 d2 d3 = some y := T.rf_of (f := 31) (d := (d1, d2, d3)) ((er31 T.rf T.rb d1 d2 d3).trans h)

/- bailmentref03.Sub -/
noncomputable def r30 (rf : T.RF) (rb : T.RB) (d1 : List (Int × Int × Int × Int × Int × List UInt8)) (d2 : Int) : Option (List (Int × Int × Int × Int × Int × List UInt8)) :=
  (c25 rf d1).bind fun (y1 : Bool) =>
  bif !y1 then
    some []
  else
  bif decide (d2 < 0) then
    some []
  else
  bif decide (d2 ≥ (((d1.length : Nat) : Int))) then
    some []
  else
    (c31 rf [] d1 d2).bind fun (y2 : List (Int × Int × Int × Int × Int × List UInt8)) =>
    some y2
theorem er30 (rf : T.RF) (rb : T.RB) (d1 : List (Int × Int × Int × Int × Int × List UInt8)) (d2 : Int) : T.stepF rf rb 30 (d1, d2) = r30 rf rb d1 d2 := by kernel_rfl
theorem or30 {d1 : List (Int × Int × Int × Int × Int × List UInt8)} {d2 : Int} {y : (List (Int × Int × Int × Int × Int × List UInt8))} (h : r30 T.rf T.rb d1 d2 = some y) : c30 T.rf d1 d2 = some y := T.rf_of (f := 30) (d := (d1, d2)) ((er30 T.rf T.rb d1 d2).trans h)

/- bailmentref03.Norm -/
noncomputable def r34 (rf : T.RF) (rb : T.RB) (d1 : List (Int × Int × Int × Int × Int × List UInt8)) : Option (List (Int × Int × Int × Int × Int × List UInt8)) :=
  (c30 rf d1 (IntKind.i64.wrap ((((d1.length : Nat) : Int)) - 1))).bind fun (y1 : List (Int × Int × Int × Int × Int × List UInt8)) =>
  some y1
theorem er34 (rf : T.RF) (rb : T.RB) (d1 : List (Int × Int × Int × Int × Int × List UInt8)) : T.stepF rf rb 34 d1 = r34 rf rb d1 := by kernel_rfl
theorem or34 {d1 : List (Int × Int × Int × Int × Int × List UInt8)} {y : (List (Int × Int × Int × Int × Int × List UInt8))} (h : r34 T.rf T.rb d1 = some y) : c34 T.rf d1 = some y := T.rf_of (f := 34) (d := d1) ((er34 T.rf T.rb d1).trans h)

/- bailmentref03.has loop 0 -/
noncomputable def b46 (rf : T.RF) (rb : T.RB) (d1 : List (List UInt8)) (d2 : List UInt8) (d3 : Int) : Option ((List (List UInt8) × Bool) ⊕ (List (List UInt8))) :=
  bif decide (d3 < (((d1.length : Nat) : Int))) then
    bif inb d3 d1.length then
      (nth d1 d3.toNat).bind fun (x1 : List UInt8) =>
      bif x1 == d2 then
        some (.inl (d1, true))
      else
        k46 rb d1 d2 (IntKind.i64.wrap (d3 + 1))
    else
      none
  else
    some (.inr d1)
theorem eb46 (rf : T.RF) (rb : T.RB) (d1 : List (List UInt8)) (d2 : List UInt8) (d3 : Int) : T.stepB rf rb 46 (d1, d2, d3) = b46 rf rb d1 d2 d3 := by kernel_rfl
theorem ob46 {d1 : List (List UInt8)} {d2 : List UInt8} {d3 : Int} {y : ((List (List UInt8) × Bool) ⊕ (List (List UInt8)))} (h : b46 T.rf T.rb d1 d2 d3 = some y) : k46 T.rb d1 d2 d3 = some y := T.rb_of (κ := 46) (d := (d1, d2, d3)) ((eb46 T.rf T.rb d1 d2 d3).trans h)

/- bailmentref03.has -/
noncomputable def r35 (rf : T.RF) (rb : T.RB) (d1 : List (List UInt8)) (d2 : List UInt8) : Option (List (List UInt8) × Bool) :=
  (k46 rb d1 d2 0).bind fun (z1 : (List (List UInt8) × Bool) ⊕ (List (List UInt8))) =>
  match z1 with
  | .inl u2 =>
    some u2
  | .inr w3 =>
    some (w3, false)
theorem er35 (rf : T.RF) (rb : T.RB) (d1 : List (List UInt8)) (d2 : List UInt8) : T.stepF rf rb 35 (d1, d2) = r35 rf rb d1 d2 := by kernel_rfl
theorem or35 {d1 : List (List UInt8)} {d2 : List UInt8} {y : (List (List UInt8) × Bool)} (h : r35 T.rf T.rb d1 d2 = some y) : c35 T.rf d1 d2 = some y := T.rf_of (f := 35) (d := (d1, d2)) ((er35 T.rf T.rb d1 d2).trans h)

/- bailmentref03.Vars loop 0 -/
noncomputable def b47 (rf : T.RF) (rb : T.RB) (d1 : List (Int × Int × Int × Int × Int × List UInt8)) (d2 : List (List UInt8)) (d3 : Int) : Option (List (Int × Int × Int × Int × Int × List UInt8) × List (List UInt8)) :=
  bif decide (d3 < (((d1.length : Nat) : Int))) then
    bif inb d3 d1.length then
      (nth d1 d3.toNat).bind fun (x1 : Int × Int × Int × Int × Int × List UInt8) =>
      bif x1.1 == 3 then
        bif inb d3 d1.length then
          (nth d1 d3.toNat).bind fun (x2 : Int × Int × Int × Int × Int × List UInt8) =>
          (c35 rf d2 x2.2.2.2.2.2).bind fun (y3 : List (List UInt8) × Bool) =>
          bif !y3.2 then
            bif inb d3 d1.length then
              (nth d1 d3.toNat).bind fun (x4 : Int × Int × Int × Int × Int × List UInt8) =>
              bif (Nat.ble (y3.1.length + 1) most) && true then
                k47 rb d1 (y3.1 ++ [x4.2.2.2.2.2]) (IntKind.i64.wrap (d3 + 1))
              else
                none
            else
              none
          else
            k47 rb d1 y3.1 (IntKind.i64.wrap (d3 + 1))
        else
          none
      else
        k47 rb d1 d2 (IntKind.i64.wrap (d3 + 1))
    else
      none
  else
    some (d1, d2)
theorem eb47 (rf : T.RF) (rb : T.RB) (d1 : List (Int × Int × Int × Int × Int × List UInt8)) (d2 : List (List UInt8)) (d3 : Int) : T.stepB rf rb 47 (d1, d2, d3) = b47 rf rb d1 d2 d3 := by kernel_rfl
theorem ob47 {d1 : List (Int × Int × Int × Int × Int × List UInt8)} {d2 : List (List UInt8)} {d3 : Int} {y : (List (Int × Int × Int × Int × Int × List UInt8) × List (List UInt8))} (h : b47 T.rf T.rb d1 d2 d3 = some y) : k47 T.rb d1 d2 d3 = some y := T.rb_of (κ := 47) (d := (d1, d2, d3)) ((eb47 T.rf T.rb d1 d2 d3).trans h)

/- bailmentref03.Vars -/
noncomputable def r33 (rf : T.RF) (rb : T.RB) (d1 : List (Int × Int × Int × Int × Int × List UInt8)) : Option (List (List UInt8)) :=
  (c34 rf d1).bind fun (y1 : List (Int × Int × Int × Int × Int × List UInt8)) =>
  (k47 rb y1 [] 0).bind fun (z2 : List (Int × Int × Int × Int × Int × List UInt8) × List (List UInt8)) =>
  some z2.2
theorem er33 (rf : T.RF) (rb : T.RB) (d1 : List (Int × Int × Int × Int × Int × List UInt8)) : T.stepF rf rb 33 d1 = r33 rf rb d1 := by kernel_rfl
theorem or33 {d1 : List (Int × Int × Int × Int × Int × List UInt8)} {y : (List (List UInt8))} (h : r33 T.rf T.rb d1 = some y) : c33 T.rf d1 = some y := T.rf_of (f := 33) (d := d1) ((er33 T.rf T.rb d1).trans h)

/- bailmentlaw03.TreeMays loop 0 -/
noncomputable def b29 (rf : T.RF) (rb : T.RB) (d1 : List (Int × Int × Int × Int × Int × List UInt8)) (d2 : Int) : Option (Bool ⊕ Unit) :=
  bif decide (d2 < (((d1.length : Nat) : Int))) then
    bif inb d2 d1.length then
      (nth d1 d2.toNat).bind fun (x1 : Int × Int × Int × Int × Int × List UInt8) =>
      bif inb d2 d1.length then
        (nth d1 d2.toNat).bind fun (x2 : Int × Int × Int × Int × Int × List UInt8) =>
        (c4 rf x1).bind fun (y3 : List Int) =>
        (c23 rf x2).bind fun (y4 : List Int) =>
        (c24 rf y3 y4).bind fun (y5 : Bool) =>
        bif !y5 then
          some (.inl false)
        else
          k29 rb d1 (IntKind.i64.wrap (d2 + 1))
      else
        none
    else
      none
  else
    some (.inr ())
theorem eb29 (rf : T.RF) (rb : T.RB) (d1 : List (Int × Int × Int × Int × Int × List UInt8)) (d2 : Int) : T.stepB rf rb 29 (d1, d2) = b29 rf rb d1 d2 := by kernel_rfl
theorem ob29 {d1 : List (Int × Int × Int × Int × Int × List UInt8)} {d2 : Int} {y : (Bool ⊕ Unit)} (h : b29 T.rf T.rb d1 d2 = some y) : k29 T.rb d1 d2 = some y := T.rb_of (κ := 29) (d := (d1, d2)) ((eb29 T.rf T.rb d1 d2).trans h)

/- bailmentlaw03.TreeMays -/
noncomputable def r0 (rf : T.RF) (rb : T.RB) (d1 : List (Int × Int × Int × Int × Int × List UInt8)) (d2 : Int) : Option Bool :=
  (c1 rf d1 300).bind fun (y1 : Bool) =>
  bif !y1 then
    (c2 rf).bind fun (y2 : Bool) =>
    some y2
  else
    (k29 rb d1 0).bind fun (z3 : Bool ⊕ Unit) =>
    match z3 with
    | .inl u4 =>
      some u4
    | .inr w5 =>
      (c25 rf d1).bind fun (y6 : Bool) =>
      (c8 rf d1).bind fun (y7 : Bool) =>
      bif !(y7 == y6) then
        some false
      else
      bif y6 then
        (c12 rf d1).bind fun (y8 : Int) =>
        (c29 rf d1).bind fun (y9 : Int) =>
        bif y8 != y9 then
          some false
        else
          (c12 rf d1).bind fun (y10 : Int) =>
          (c17 rf d1 d2).bind fun (y11 : List (Int × Int × Int × Int × Int × List UInt8)) =>
          (c30 rf d1 d2).bind fun (y12 : List (Int × Int × Int × Int × Int × List UInt8)) =>
          (c20 rf y11 y12).bind fun (y13 : Bool) =>
          bif y13 then
            (c21 rf d1).bind fun (y14 : List (List UInt8)) =>
            (c33 rf d1).bind fun (y15 : List (List UInt8)) =>
            (c22 rf y14 y15).bind fun (y16 : Bool) =>
            bif y16 then
              (c2 rf).bind fun (y17 : Bool) =>
              some y17
            else
              some false
          else
            some false
      else
        (c12 rf d1).bind fun (y18 : Int) =>
        (c17 rf d1 d2).bind fun (y19 : List (Int × Int × Int × Int × Int × List UInt8)) =>
        (c30 rf d1 d2).bind fun (y20 : List (Int × Int × Int × Int × Int × List UInt8)) =>
        (c20 rf y19 y20).bind fun (y21 : Bool) =>
        bif y21 then
          (c21 rf d1).bind fun (y22 : List (List UInt8)) =>
          (c33 rf d1).bind fun (y23 : List (List UInt8)) =>
          (c22 rf y22 y23).bind fun (y24 : Bool) =>
          bif y24 then
            (c2 rf).bind fun (y25 : Bool) =>
            some y25
          else
            some false
        else
          some false
theorem er0 (rf : T.RF) (rb : T.RB) (d1 : List (Int × Int × Int × Int × Int × List UInt8)) (d2 : Int) : T.stepF rf rb 0 (d1, d2) = r0 rf rb d1 d2 := by kernel_rfl
theorem or0 {d1 : List (Int × Int × Int × Int × Int × List UInt8)} {d2 : Int} {y : Bool} (h : r0 T.rf T.rb d1 d2 = some y) : c0 T.rf d1 d2 = some y := T.rf_of (f := 0) (d := (d1, d2)) ((er0 T.rf T.rb d1 d2).trans h)

/- bailmentref03.Copy -/
noncomputable def r37 (rf : T.RF) (rb : T.RB) (d1 : List (Int × Int × Int × Int × Int × List UInt8)) : Option (List (Int × Int × Int × Int × Int × List UInt8)) :=
  bif Nat.ble d1.length most then
    some d1
  else
    none
theorem er37 (rf : T.RF) (rb : T.RB) (d1 : List (Int × Int × Int × Int × Int × List UInt8)) : T.stepF rf rb 37 d1 = r37 rf rb d1 := by kernel_rfl
theorem or37 {d1 : List (Int × Int × Int × Int × Int × List UInt8)} {y : (List (Int × Int × Int × Int × Int × List UInt8))} (h : r37 T.rf T.rb d1 = some y) : c37 T.rf d1 = some y := T.rf_of (f := 37) (d := d1) ((er37 T.rf T.rb d1).trans h)

/- bailmentref03.leaf -/
noncomputable def r39 (rf : T.RF) (rb : T.RB) (d1 : Int) (d2 : Int) (d3 : List UInt8) : Option (Int × Int × Int × Int × Int × List UInt8) :=
  some (d1, (-1), (-1), (-1), d2, d3)
theorem er39 (rf : T.RF) (rb : T.RB) (d1 : Int) (d2 : Int) (d3 : List UInt8) : T.stepF rf rb 39 (d1, d2, d3) = r39 rf rb d1 d2 d3 := by kernel_rfl
theorem or39 {d1 : Int} {d2 : Int} {d3 : List UInt8} {y : (Int × Int × Int × Int × Int × List UInt8)} (h : r39 T.rf T.rb d1 d2 d3 = some y) : c39 T.rf d1 d2 d3 = some y := T.rf_of (f := 39) (d := (d1, d2, d3)) ((er39 T.rf T.rb d1 d2 d3).trans h)

/- bailmentref03.move -/
noncomputable def r41 (rf : T.RF) (rb : T.RB) (d1 : Int × Int × Int × Int × Int × List UInt8) (d2 : Int) : Option (Int × Int × Int × Int × Int × List UInt8) :=
  bif decide (d1.2.1 ≥ 0) then
    bif decide (d1.2.2.1 ≥ 0) then
      bif decide (d1.2.2.2.1 ≥ 0) then
        some (d1.1, IntKind.i64.wrap (d1.2.1 + d2), IntKind.i64.wrap (d1.2.2.1 + d2), IntKind.i64.wrap (d1.2.2.2.1 + d2), d1.2.2.2.2)
      else
        some (d1.1, IntKind.i64.wrap (d1.2.1 + d2), IntKind.i64.wrap (d1.2.2.1 + d2), d1.2.2.2)
    else
    bif decide (d1.2.2.2.1 ≥ 0) then
      some (d1.1, IntKind.i64.wrap (d1.2.1 + d2), d1.2.2.1, IntKind.i64.wrap (d1.2.2.2.1 + d2), d1.2.2.2.2)
    else
      some (d1.1, IntKind.i64.wrap (d1.2.1 + d2), d1.2.2)
  else
  bif decide (d1.2.2.1 ≥ 0) then
    bif decide (d1.2.2.2.1 ≥ 0) then
      some (d1.1, d1.2.1, IntKind.i64.wrap (d1.2.2.1 + d2), IntKind.i64.wrap (d1.2.2.2.1 + d2), d1.2.2.2.2)
    else
      some (d1.1, d1.2.1, IntKind.i64.wrap (d1.2.2.1 + d2), d1.2.2.2)
  else
  bif decide (d1.2.2.2.1 ≥ 0) then
    some (d1.1, d1.2.1, d1.2.2.1, IntKind.i64.wrap (d1.2.2.2.1 + d2), d1.2.2.2.2)
  else
    some d1
theorem er41 (rf : T.RF) (rb : T.RB) (d1 : Int × Int × Int × Int × Int × List UInt8) (d2 : Int) : T.stepF rf rb 41 (d1, d2) = r41 rf rb d1 d2 := by kernel_rfl
theorem or41 {d1 : Int × Int × Int × Int × Int × List UInt8} {d2 : Int} {y : (Int × Int × Int × Int × Int × List UInt8)} (h : r41 T.rf T.rb d1 d2 = some y) : c41 T.rf d1 d2 = some y := T.rf_of (f := 41) (d := (d1, d2)) ((er41 T.rf T.rb d1 d2).trans h)

/- bailmentref03.behind loop 0 -/
noncomputable def b53 (rf : T.RF) (rb : T.RB) (d1 : List (Int × Int × Int × Int × Int × List UInt8)) (d2 : List (Int × Int × Int × Int × Int × List UInt8)) (d3 : Int) (d4 : Int) : Option (List (Int × Int × Int × Int × Int × List UInt8)) :=
  bif decide (d4 < (((d2.length : Nat) : Int))) then
    bif inb d4 d2.length then
      (nth d2 d4.toNat).bind fun (x1 : Int × Int × Int × Int × Int × List UInt8) =>
      (c41 rf x1 d3).bind fun (y2 : Int × Int × Int × Int × Int × List UInt8) =>
      bif (Nat.ble (d1.length + 1) most) && true then
        k53 rb (d1 ++ [y2]) d2 d3 (IntKind.i64.wrap (d4 + 1))
      else
        none
    else
      none
  else
    some d1
theorem eb53 (rf : T.RF) (rb : T.RB) (d1 : List (Int × Int × Int × Int × Int × List UInt8)) (d2 : List (Int × Int × Int × Int × Int × List UInt8)) (d3 : Int) (d4 : Int) : T.stepB rf rb 53 (d1, d2, d3, d4) = b53 rf rb d1 d2 d3 d4 := by kernel_rfl
theorem ob53 {d1 : List (Int × Int × Int × Int × Int × List UInt8)} {d2 : List (Int × Int × Int × Int × Int × List UInt8)} {d3 : Int} {d4 : Int} {y : (List (Int × Int × Int × Int × Int × List UInt8))} (h : b53 T.rf T.rb d1 d2 d3 d4 = some y) : k53 T.rb d1 d2 d3 d4 = some y := T.rb_of (κ := 53) (d := (d1, d2, d3, d4)) ((eb53 T.rf T.rb d1 d2 d3 d4).trans h)

/- bailmentref03.behind -/
noncomputable def r40 (rf : T.RF) (rb : T.RB) (d1 : List (Int × Int × Int × Int × Int × List UInt8)) (d2 : List (Int × Int × Int × Int × Int × List UInt8)) : Option (List (Int × Int × Int × Int × Int × List UInt8)) :=
  (k53 rb d1 d2 (((d1.length : Nat) : Int)) 0).bind fun (z1 : List (Int × Int × Int × Int × Int × List UInt8)) =>
  some z1
theorem er40 (rf : T.RF) (rb : T.RB) (d1 : List (Int × Int × Int × Int × Int × List UInt8)) (d2 : List (Int × Int × Int × Int × Int × List UInt8)) : T.stepF rf rb 40 (d1, d2) = r40 rf rb d1 d2 := by kernel_rfl
theorem or40 {d1 : List (Int × Int × Int × Int × Int × List UInt8)} {d2 : List (Int × Int × Int × Int × Int × List UInt8)} {y : (List (Int × Int × Int × Int × Int × List UInt8))} (h : r40 T.rf T.rb d1 d2 = some y) : c40 T.rf d1 d2 = some y := T.rf_of (f := 40) (d := (d1, d2)) ((er40 T.rf T.rb d1 d2).trans h)

/- bailmentref03.Join loop 0 -/
noncomputable def b54 (rf : T.RF) (rb : T.RB) (d1 : List (Int × Int × Int × Int × Int × List UInt8)) (d2 : List Int) (d3 : Int) (d4 : List (List (Int × Int × Int × Int × Int × List UInt8))) (d5 : Int) (d6 : Int) : Option ((List (Int × Int × Int × Int × Int × List UInt8)) ⊕ (List (Int × Int × Int × Int × Int × List UInt8) × List Int × Int)) :=
  bif decide (d6 < (((d4.length : Nat) : Int))) then
    bif inb d6 d4.length then
      (nth d4 d6.toNat).bind fun (x1 : List (Int × Int × Int × Int × Int × List UInt8)) =>
      bif (((x1.length : Nat) : Int)) == 0 then
        some (.inl [])
      else
      bif inb d6 d4.length then
        (nth d4 d6.toNat).bind fun (x2 : List (Int × Int × Int × Int × Int × List UInt8)) =>
        (c40 rf d1 x2).bind fun (y3 : List (Int × Int × Int × Int × Int × List UInt8)) =>
        bif (Nat.ble (d2.length + 1) most) && true then
          bif d3 == 27 then
            (c39 rf 28 0 ([] : List UInt8)).bind fun (y4 : Int × Int × Int × Int × Int × List UInt8) =>
            bif (Nat.ble (y3.length + 1) most) && true then
              k54 rb (y3 ++ [(y4.1, IntKind.i64.wrap ((((y3.length : Nat) : Int)) - 1), d5, y4.2.2.2)]) (d2 ++ [IntKind.i64.wrap ((((y3.length : Nat) : Int)) - 1)]) d3 d4 (((y3.length : Nat) : Int)) (IntKind.i64.wrap (d6 + 1))
            else
              none
          else
            k54 rb y3 (d2 ++ [IntKind.i64.wrap ((((y3.length : Nat) : Int)) - 1)]) d3 d4 d5 (IntKind.i64.wrap (d6 + 1))
        else
          none
      else
        none
    else
      none
  else
    some (.inr (d1, d2, d5))
theorem eb54 (rf : T.RF) (rb : T.RB) (d1 : List (Int × Int × Int × Int × Int × List UInt8)) (d2 : List Int) (d3 : Int) (d4 : List (List (Int × Int × Int × Int × Int × List UInt8))) (d5 : Int) (d6 : Int) : T.stepB rf rb 54 (d1, d2, d3, d4, d5, d6) = b54 rf rb d1 d2 d3 d4 d5 d6 := by kernel_rfl
theorem ob54 {d1 : List (Int × Int × Int × Int × Int × List UInt8)} {d2 : List Int} {d3 : Int} {d4 : List (List (Int × Int × Int × Int × Int × List UInt8))} {d5 : Int} {d6 : Int} {y : ((List (Int × Int × Int × Int × Int × List UInt8)) ⊕ (List (Int × Int × Int × Int × Int × List UInt8) × List Int × Int))} (h : b54 T.rf T.rb d1 d2 d3 d4 d5 d6 = some y) : k54 T.rb d1 d2 d3 d4 d5 d6 = some y := T.rb_of (κ := 54) (d := (d1, d2, d3, d4, d5, d6)) ((eb54 T.rf T.rb d1 d2 d3 d4 d5 d6).trans h)

/- bailmentref03.Join -/
noncomputable def r38 (rf : T.RF) (rb : T.RB) (d1 : Int) (d2 : Int) (d3 : List UInt8) (d4 : List (List (Int × Int × Int × Int × Int × List UInt8))) : Option (List (Int × Int × Int × Int × Int × List UInt8)) :=
  (c39 rf d1 d2 d3).bind fun (y1 : Int × Int × Int × Int × Int × List UInt8) =>
  (c23 rf y1).bind fun (y2 : List Int) =>
  bif d1 == 28 then
    some []
  else
  bif d1 != 27 then
    bif (((y2.length : Nat) : Int)) != (((d4.length : Nat) : Int)) then
      some []
    else
      (k54 rb [] [] d1 d4 (-1) 0).bind fun (z3 : (List (Int × Int × Int × Int × Int × List UInt8)) ⊕ (List (Int × Int × Int × Int × Int × List UInt8) × List Int × Int)) =>
      match z3 with
      | .inl u4 =>
        some u4
      | .inr w5 =>
        bif d1 == 27 then
          bif (Nat.ble (w5.1.length + 1) most) && true then
            some (w5.1 ++ [(y1.1, w5.2.2, y1.2.2)])
          else
            none
        else
          (c32 rf y1 w5.2.1).bind fun (y6 : Int × Int × Int × Int × Int × List UInt8) =>
          bif (Nat.ble (w5.1.length + 1) most) && true then
            some (w5.1 ++ [y6])
          else
            none
  else
    (k54 rb [] [] d1 d4 (-1) 0).bind fun (z7 : (List (Int × Int × Int × Int × Int × List UInt8)) ⊕ (List (Int × Int × Int × Int × Int × List UInt8) × List Int × Int)) =>
    match z7 with
    | .inl u8 =>
      some u8
    | .inr w9 =>
      bif d1 == 27 then
        bif (Nat.ble (w9.1.length + 1) most) && true then
          some (w9.1 ++ [(y1.1, w9.2.2, y1.2.2)])
        else
          none
      else
        (c32 rf y1 w9.2.1).bind fun (y10 : Int × Int × Int × Int × Int × List UInt8) =>
        bif (Nat.ble (w9.1.length + 1) most) && true then
          some (w9.1 ++ [y10])
        else
          none
theorem er38 (rf : T.RF) (rb : T.RB) (d1 : Int) (d2 : Int) (d3 : List UInt8) (d4 : List (List (Int × Int × Int × Int × Int × List UInt8))) : T.stepF rf rb 38 (d1, d2, d3, d4) = r38 rf rb d1 d2 d3 d4 := by kernel_rfl
theorem or38 {d1 : Int} {d2 : Int} {d3 : List UInt8} {d4 : List (List (Int × Int × Int × Int × Int × List UInt8))} {y : (List (Int × Int × Int × Int × Int × List UInt8))} (h : r38 T.rf T.rb d1 d2 d3 d4 = some y) : c38 T.rf d1 d2 d3 d4 = some y := T.rf_of (f := 38) (d := (d1, d2, d3, d4)) ((er38 T.rf T.rb d1 d2 d3 d4).trans h)

/- bailmentlaw03.TreeJoins loop 0 -/
noncomputable def b49 (rf : T.RF) (rb : T.RB) (d1 : List (List (Int × Int × Int × Int × Int × List UInt8))) (d2 : List (List (Int × Int × Int × Int × Int × List UInt8))) (d3 : Int) : Option (Bool ⊕ (List (List (Int × Int × Int × Int × Int × List UInt8)))) :=
  bif decide (d3 < (((d2.length : Nat) : Int))) then
    bif inb d3 d2.length then
      (nth d2 d3.toNat).bind fun (x1 : List (Int × Int × Int × Int × Int × List UInt8)) =>
      (c1 rf x1 100).bind fun (y2 : Bool) =>
      bif !y2 then
        (c2 rf).bind fun (y3 : Bool) =>
        some (.inl y3)
      else
      bif inb d3 d2.length then
        (nth d2 d3.toNat).bind fun (x4 : List (Int × Int × Int × Int × Int × List UInt8)) =>
        (c37 rf x4).bind fun (y5 : List (Int × Int × Int × Int × Int × List UInt8)) =>
        bif (Nat.ble (d1.length + 1) most) && true then
          k49 rb (d1 ++ [y5]) d2 (IntKind.i64.wrap (d3 + 1))
        else
          none
      else
        none
    else
      none
  else
    some (.inr d1)
theorem eb49 (rf : T.RF) (rb : T.RB) (d1 : List (List (Int × Int × Int × Int × Int × List UInt8))) (d2 : List (List (Int × Int × Int × Int × Int × List UInt8))) (d3 : Int) : T.stepB rf rb 49 (d1, d2, d3) = b49 rf rb d1 d2 d3 := by kernel_rfl
theorem ob49 {d1 : List (List (Int × Int × Int × Int × Int × List UInt8))} {d2 : List (List (Int × Int × Int × Int × Int × List UInt8))} {d3 : Int} {y : (Bool ⊕ (List (List (Int × Int × Int × Int × Int × List UInt8))))} (h : b49 T.rf T.rb d1 d2 d3 = some y) : k49 T.rb d1 d2 d3 = some y := T.rb_of (κ := 49) (d := (d1, d2, d3)) ((eb49 T.rf T.rb d1 d2 d3).trans h)

/- bailmentlaw03.TreeJoins loop 2 -/
noncomputable def b50 (rf : T.RF) (rb : T.RB) (d1 : List (List (Int × Int × Int × Int × Int × List UInt8))) (d2 : List (List (Int × Int × Int × Int × Int × List UInt8))) (d3 : Int) : Option (Bool ⊕ Unit) :=
  bif decide (d3 < (((d1.length : Nat) : Int))) then
    bif inb d3 d2.length then
      (nth d2 d3.toNat).bind fun (x1 : List (Int × Int × Int × Int × Int × List UInt8)) =>
      bif inb d3 d1.length then
        (nth d1 d3.toNat).bind fun (x2 : List (Int × Int × Int × Int × Int × List UInt8)) =>
        (c20 rf x1 x2).bind fun (y3 : Bool) =>
        bif !y3 then
          some (.inl false)
        else
          k50 rb d1 d2 (IntKind.i64.wrap (d3 + 1))
      else
        none
    else
      none
  else
    some (.inr ())
theorem eb50 (rf : T.RF) (rb : T.RB) (d1 : List (List (Int × Int × Int × Int × Int × List UInt8))) (d2 : List (List (Int × Int × Int × Int × Int × List UInt8))) (d3 : Int) : T.stepB rf rb 50 (d1, d2, d3) = b50 rf rb d1 d2 d3 := by kernel_rfl
theorem ob50 {d1 : List (List (Int × Int × Int × Int × Int × List UInt8))} {d2 : List (List (Int × Int × Int × Int × Int × List UInt8))} {d3 : Int} {y : (Bool ⊕ Unit)} (h : b50 T.rf T.rb d1 d2 d3 = some y) : k50 T.rb d1 d2 d3 = some y := T.rb_of (κ := 50) (d := (d1, d2, d3)) ((eb50 T.rf T.rb d1 d2 d3).trans h)

/- bailmentlaw03.TreeJoins -/
noncomputable def r36 (rf : T.RF) (rb : T.RB) (d1 : Int × Int × Int × Int × Int × List UInt8) (d2 : List (List (Int × Int × Int × Int × Int × List UInt8))) : Option Bool :=
  bif decide ((((d2.length : Nat) : Int)) > 20) then
    (c2 rf).bind fun (y1 : Bool) =>
    some y1
  else
    (k49 rb [] d2 0).bind fun (z2 : Bool ⊕ (List (List (Int × Int × Int × Int × Int × List UInt8)))) =>
    match z2 with
    | .inl u3 =>
      some u3
    | .inr w4 =>
      (c3 rf d1.1 d1.2.2.2.2.1 d1.2.2.2.2.2 w4).bind fun (y5 : List (Int × Int × Int × Int × Int × List UInt8)) =>
      (k50 rb d2 w4 0).bind fun (z6 : Bool ⊕ Unit) =>
      match z6 with
      | .inl u7 =>
        some u7
      | .inr w8 =>
        (c38 rf d1.1 d1.2.2.2.2.1 d1.2.2.2.2.2 d2).bind fun (y9 : List (Int × Int × Int × Int × Int × List UInt8)) =>
        (c20 rf y5 y9).bind fun (y10 : Bool) =>
        bif y10 then
          (c2 rf).bind fun (y11 : Bool) =>
          some y11
        else
          some false
theorem er36 (rf : T.RF) (rb : T.RB) (d1 : Int × Int × Int × Int × Int × List UInt8) (d2 : List (List (Int × Int × Int × Int × Int × List UInt8))) : T.stepF rf rb 36 (d1, d2) = r36 rf rb d1 d2 := by kernel_rfl
theorem or36 {d1 : Int × Int × Int × Int × Int × List UInt8} {d2 : List (List (Int × Int × Int × Int × Int × List UInt8))} {y : Bool} (h : r36 T.rf T.rb d1 d2 = some y) : c36 T.rf d1 d2 = some y := T.rf_of (f := 36) (d := (d1, d2)) ((er36 T.rf T.rb d1 d2).trans h)

/- bailmentref03.place loop 0 -/
noncomputable def b58 (rf : T.RF) (rb : T.RB) (d1 : List (List UInt8)) (d2 : List UInt8) (d3 : Int) : Option (Int ⊕ Unit) :=
  bif decide (d3 < (((d1.length : Nat) : Int))) then
    bif inb d3 d1.length then
      (nth d1 d3.toNat).bind fun (x1 : List UInt8) =>
      bif x1 == d2 then
        some (.inl d3)
      else
        k58 rb d1 d2 (IntKind.i64.wrap (d3 + 1))
    else
      none
  else
    some (.inr ())
theorem eb58 (rf : T.RF) (rb : T.RB) (d1 : List (List UInt8)) (d2 : List UInt8) (d3 : Int) : T.stepB rf rb 58 (d1, d2, d3) = b58 rf rb d1 d2 d3 := by kernel_rfl
theorem ob58 {d1 : List (List UInt8)} {d2 : List UInt8} {d3 : Int} {y : (Int ⊕ Unit)} (h : b58 T.rf T.rb d1 d2 d3 = some y) : k58 T.rb d1 d2 d3 = some y := T.rb_of (κ := 58) (d := (d1, d2, d3)) ((eb58 T.rf T.rb d1 d2 d3).trans h)

/- bailmentref03.place -/
noncomputable def r44 (rf : T.RF) (rb : T.RB) (d1 : List (List UInt8)) (d2 : List UInt8) : Option Int :=
  (k58 rb d1 d2 0).bind fun (z1 : Int ⊕ Unit) =>
  match z1 with
  | .inl u2 =>
    some u2
  | .inr w3 =>
    some (-1)
theorem er44 (rf : T.RF) (rb : T.RB) (d1 : List (List UInt8)) (d2 : List UInt8) : T.stepF rf rb 44 (d1, d2) = r44 rf rb d1 d2 := by kernel_rfl
theorem or44 {d1 : List (List UInt8)} {d2 : List UInt8} {y : Int} (h : r44 T.rf T.rb d1 d2 = some y) : c44 T.rf d1 d2 = some y := T.rf_of (f := 44) (d := (d1, d2)) ((er44 T.rf T.rb d1 d2).trans h)

/- bailmentref03.Put loop 0 -/
noncomputable def b65 (rf : T.RF) (rb : T.RB) (d1 : List (List (Int × Int × Int × Int × Int × List UInt8))) (d2 : Int) : Option ((List (Int × Int × Int × Int × Int × List UInt8)) ⊕ Unit) :=
  bif decide (d2 < (((d1.length : Nat) : Int))) then
    bif inb d2 d1.length then
      (nth d1 d2.toNat).bind fun (x1 : List (Int × Int × Int × Int × Int × List UInt8)) =>
      (c25 rf x1).bind fun (y2 : Bool) =>
      bif !y2 then
        some (.inl [])
      else
        k65 rb d1 (IntKind.i64.wrap (d2 + 1))
    else
      none
  else
    some (.inr ())
theorem eb65 (rf : T.RF) (rb : T.RB) (d1 : List (List (Int × Int × Int × Int × Int × List UInt8))) (d2 : Int) : T.stepB rf rb 65 (d1, d2) = b65 rf rb d1 d2 := by kernel_rfl
theorem ob65 {d1 : List (List (Int × Int × Int × Int × Int × List UInt8))} {d2 : Int} {y : ((List (Int × Int × Int × Int × Int × List UInt8)) ⊕ Unit)} (h : b65 T.rf T.rb d1 d2 = some y) : k65 T.rb d1 d2 = some y := T.rb_of (κ := 65) (d := (d1, d2)) ((eb65 T.rf T.rb d1 d2).trans h)

/- bailmentref03.Put loop 2 -/
noncomputable def b66 (rf : T.RF) (rb : T.RB) (d1 : List (Int × Int × Int × Int × Int × List UInt8)) (d2 : List (Int × Int × Int × Int × Int × List UInt8)) (d3 : List Int) (d4 : List (List UInt8)) (d5 : List (List (Int × Int × Int × Int × Int × List UInt8))) (d6 : Int) : Option (List (Int × Int × Int × Int × Int × List UInt8) × List Int × List (Int × Int × Int × Int × Int × List UInt8)) :=
  bif decide (d6 < (((d1.length : Nat) : Int))) then
    bif inb d6 d1.length then
      (nth d1 d6.toNat).bind fun (x1 : Int × Int × Int × Int × Int × List UInt8) =>
      bif x1.1 == 3 then
        bif inb d6 d1.length then
          (nth d1 d6.toNat).bind fun (x2 : Int × Int × Int × Int × Int × List UInt8) =>
          (c44 rf d4 x2.2.2.2.2.2).bind fun (y3 : Int) =>
          (k67 rb d1 d2 d3 d5 d6 y3).bind fun (z4 : List (Int × Int × Int × Int × Int × List UInt8) × List Int × List (Int × Int × Int × Int × Int × List UInt8)) =>
          k66 rb z4.1 z4.2.2 z4.2.1 d4 d5 (IntKind.i64.wrap (d6 + 1))
        else
          none
      else
        (k67 rb d1 d2 d3 d5 d6 (-1)).bind fun (z5 : List (Int × Int × Int × Int × Int × List UInt8) × List Int × List (Int × Int × Int × Int × Int × List UInt8)) =>
        k66 rb z5.1 z5.2.2 z5.2.1 d4 d5 (IntKind.i64.wrap (d6 + 1))
    else
      none
  else
    some (d1, d3, d2)
theorem eb66 (rf : T.RF) (rb : T.RB) (d1 : List (Int × Int × Int × Int × Int × List UInt8)) (d2 : List (Int × Int × Int × Int × Int × List UInt8)) (d3 : List Int) (d4 : List (List UInt8)) (d5 : List (List (Int × Int × Int × Int × Int × List UInt8))) (d6 : Int) : T.stepB rf rb 66 (d1, d2, d3, d4, d5, d6) = b66 rf rb d1 d2 d3 d4 d5 d6 := by kernel_rfl
theorem ob66 {d1 : List (Int × Int × Int × Int × Int × List UInt8)} {d2 : List (Int × Int × Int × Int × Int × List UInt8)} {d3 : List Int} {d4 : List (List UInt8)} {d5 : List (List (Int × Int × Int × Int × Int × List UInt8))} {d6 : Int} {y : (List (Int × Int × Int × Int × Int × List UInt8) × List Int × List (Int × Int × Int × Int × Int × List UInt8))} (h : b66 T.rf T.rb d1 d2 d3 d4 d5 d6 = some y) : k66 T.rb d1 d2 d3 d4 d5 d6 = some y := T.rb_of (κ := 66) (d := (d1, d2, d3, d4, d5, d6)) ((eb66 T.rf T.rb d1 d2 d3 d4 d5 d6).trans h)

/- bailmentref03.Put tail 17 -/
noncomputable def b67 (rf : T.RF) (rb : T.RB) (d1 : List (Int × Int × Int × Int × Int × List UInt8)) (d2 : List (Int × Int × Int × Int × Int × List UInt8)) (d3 : List Int) (d4 : List (List (Int × Int × Int × Int × Int × List UInt8))) (d5 : Int) (d6 : Int) : Option (List (Int × Int × Int × Int × Int × List UInt8) × List Int × List (Int × Int × Int × Int × Int × List UInt8)) :=
  bif decide (d6 ≥ 0) then
    bif inb d6 d4.length then
      (nth d4 d6.toNat).bind fun (x1 : List (Int × Int × Int × Int × Int × List UInt8)) =>
      (c34 rf x1).bind fun (y2 : List (Int × Int × Int × Int × Int × List UInt8)) =>
      (c40 rf d2 y2).bind fun (y3 : List (Int × Int × Int × Int × Int × List UInt8)) =>
      bif inb d5 d3.length then
        bif Nat.blt d5.toNat d3.length then
          some (d1, setNth d3 d5.toNat (IntKind.i64.wrap ((((y3.length : Nat) : Int)) - 1)), y3)
        else
          none
      else
        none
    else
      none
  else
  bif inb d5 d1.length then
    (nth d1 d5.toNat).bind fun (x4 : Int × Int × Int × Int × Int × List UInt8) =>
    (c23 rf x4).bind fun (y5 : List Int) =>
    (k68 rb d3 y5 [] 0).bind fun (z6 : List Int × List Int × List Int) =>
    bif inb d5 d1.length then
      (nth d1 d5.toNat).bind fun (x7 : Int × Int × Int × Int × Int × List UInt8) =>
      (c32 rf x7 z6.2.2).bind fun (y8 : Int × Int × Int × Int × Int × List UInt8) =>
      bif (Nat.ble (d2.length + 1) most) && true then
        bif inb d5 z6.1.length then
          bif Nat.blt d5.toNat z6.1.length then
            some (d1, setNth z6.1 d5.toNat (IntKind.i64.wrap (((((d2 ++ [y8]).length : Nat) : Int)) - 1)), d2 ++ [y8])
          else
            none
        else
          none
      else
        none
    else
      none
  else
    none
theorem eb67 (rf : T.RF) (rb : T.RB) (d1 : List (Int × Int × Int × Int × Int × List UInt8)) (d2 : List (Int × Int × Int × Int × Int × List UInt8)) (d3 : List Int) (d4 : List (List (Int × Int × Int × Int × Int × List UInt8))) (d5 : Int) (d6 : Int) : T.stepB rf rb 67 (d1, d2, d3, d4, d5, d6) = b67 rf rb d1 d2 d3 d4 d5 d6 := by kernel_rfl
theorem ob67 {d1 : List (Int × Int × Int × Int × Int × List UInt8)} {d2 : List (Int × Int × Int × Int × Int × List UInt8)} {d3 : List Int} {d4 : List (List (Int × Int × Int × Int × Int × List UInt8))} {d5 : Int} {d6 : Int} {y : (List (Int × Int × Int × Int × Int × List UInt8) × List Int × List (Int × Int × Int × Int × Int × List UInt8))} (h : b67 T.rf T.rb d1 d2 d3 d4 d5 d6 = some y) : k67 T.rb d1 d2 d3 d4 d5 d6 = some y := T.rb_of (κ := 67) (d := (d1, d2, d3, d4, d5, d6)) ((eb67 T.rf T.rb d1 d2 d3 d4 d5 d6).trans h)

/- bailmentref03.Put loop 4 -/
noncomputable def b68 (rf : T.RF) (rb : T.RB) (d1 : List Int) (d2 : List Int) (d3 : List Int) (d4 : Int) : Option (List Int × List Int × List Int) :=
  bif decide (d4 < (((d2.length : Nat) : Int))) then
    bif inb d4 d2.length then
      (nth d2 d4.toNat).bind fun (x1 : Int) =>
      bif inb x1 d1.length then
        (nth d1 x1.toNat).bind fun (x2 : Int) =>
        bif (Nat.ble (d3.length + 1) most) && true then
          k68 rb d1 d2 (d3 ++ [x2]) (IntKind.i64.wrap (d4 + 1))
        else
          none
      else
        none
    else
      none
  else
    some (d1, d2, d3)
theorem eb68 (rf : T.RF) (rb : T.RB) (d1 : List Int) (d2 : List Int) (d3 : List Int) (d4 : Int) : T.stepB rf rb 68 (d1, d2, d3, d4) = b68 rf rb d1 d2 d3 d4 := by kernel_rfl
theorem ob68 {d1 : List Int} {d2 : List Int} {d3 : List Int} {d4 : Int} {y : (List Int × List Int × List Int)} (h : b68 T.rf T.rb d1 d2 d3 d4 = some y) : k68 T.rb d1 d2 d3 d4 = some y := T.rb_of (κ := 68) (d := (d1, d2, d3, d4)) ((eb68 T.rf T.rb d1 d2 d3 d4).trans h)

/- bailmentref03.Put -/
noncomputable def r43 (rf : T.RF) (rb : T.RB) (d1 : List (Int × Int × Int × Int × Int × List UInt8)) (d2 : List (List UInt8)) (d3 : List (List (Int × Int × Int × Int × Int × List UInt8))) : Option (List (Int × Int × Int × Int × Int × List UInt8)) :=
  (c25 rf d1).bind fun (y1 : Bool) =>
  bif !y1 then
    some []
  else
  bif (((d2.length : Nat) : Int)) != (((d3.length : Nat) : Int)) then
    some []
  else
    (k65 rb d3 0).bind fun (z2 : (List (Int × Int × Int × Int × Int × List UInt8)) ⊕ Unit) =>
    match z2 with
    | .inl u3 =>
      some u3
    | .inr w4 =>
      (c34 rf d1).bind fun (y5 : List (Int × Int × Int × Int × Int × List UInt8)) =>
      bif inb' (((y5.length : Nat) : Int)) most then
        bif inb' (((y5.length : Nat) : Int)) y5.length then
          (k66 rb y5 [] (List.replicate y5.length 0) d2 d3 0).bind fun (z6 : List (Int × Int × Int × Int × Int × List UInt8) × List Int × List (Int × Int × Int × Int × Int × List UInt8)) =>
          some z6.2.2
        else
          none
      else
        none
theorem er43 (rf : T.RF) (rb : T.RB) (d1 : List (Int × Int × Int × Int × Int × List UInt8)) (d2 : List (List UInt8)) (d3 : List (List (Int × Int × Int × Int × Int × List UInt8))) : T.stepF rf rb 43 (d1, d2, d3) = r43 rf rb d1 d2 d3 := by kernel_rfl
theorem or43 {d1 : List (Int × Int × Int × Int × Int × List UInt8)} {d2 : List (List UInt8)} {d3 : List (List (Int × Int × Int × Int × Int × List UInt8))} {y : (List (Int × Int × Int × Int × Int × List UInt8))} (h : r43 T.rf T.rb d1 d2 d3 = some y) : c43 T.rf d1 d2 d3 = some y := T.rf_of (f := 43) (d := (d1, d2, d3)) ((er43 T.rf T.rb d1 d2 d3).trans h)

/- bailmentlaw03.TreePuts loop 0 -/
noncomputable def b55 (rf : T.RF) (rb : T.RB) (d1 : List (List (Int × Int × Int × Int × Int × List UInt8))) (d2 : Int) : Option (Bool ⊕ Unit) :=
  bif decide (d2 < (((d1.length : Nat) : Int))) then
    bif inb d2 d1.length then
      (nth d1 d2.toNat).bind fun (x1 : List (Int × Int × Int × Int × Int × List UInt8)) =>
      (c1 rf x1 100).bind fun (y2 : Bool) =>
      bif !y2 then
        (c2 rf).bind fun (y3 : Bool) =>
        some (.inl y3)
      else
        k55 rb d1 (IntKind.i64.wrap (d2 + 1))
    else
      none
  else
    some (.inr ())
theorem eb55 (rf : T.RF) (rb : T.RB) (d1 : List (List (Int × Int × Int × Int × Int × List UInt8))) (d2 : Int) : T.stepB rf rb 55 (d1, d2) = b55 rf rb d1 d2 := by kernel_rfl
theorem ob55 {d1 : List (List (Int × Int × Int × Int × Int × List UInt8))} {d2 : Int} {y : (Bool ⊕ Unit)} (h : b55 T.rf T.rb d1 d2 = some y) : k55 T.rb d1 d2 = some y := T.rb_of (κ := 55) (d := (d1, d2)) ((eb55 T.rf T.rb d1 d2).trans h)

/- bailmentlaw03.TreePuts -/
noncomputable def r42 (rf : T.RF) (rb : T.RB) (d1 : List (Int × Int × Int × Int × Int × List UInt8)) (d2 : List (List UInt8)) (d3 : List (List (Int × Int × Int × Int × Int × List UInt8))) : Option Bool :=
  (c1 rf d1 100).bind fun (y1 : Bool) =>
  bif !y1 then
    (c2 rf).bind fun (y2 : Bool) =>
    some y2
  else
  bif decide ((((d2.length : Nat) : Int)) > 10) then
    (c2 rf).bind fun (y3 : Bool) =>
    some y3
  else
  bif decide ((((d3.length : Nat) : Int)) > 10) then
    (c2 rf).bind fun (y4 : Bool) =>
    some y4
  else
    (k55 rb d3 0).bind fun (z5 : Bool ⊕ Unit) =>
    match z5 with
    | .inl u6 =>
      some u6
    | .inr w7 =>
      (c7 rf d1 d2 d3).bind fun (y8 : List (Int × Int × Int × Int × Int × List UInt8)) =>
      (c43 rf d1 d2 d3).bind fun (y9 : List (Int × Int × Int × Int × Int × List UInt8)) =>
      (c20 rf y8 y9).bind fun (y10 : Bool) =>
      bif y10 then
        (c2 rf).bind fun (y11 : Bool) =>
        some y11
      else
        some false
theorem er42 (rf : T.RF) (rb : T.RB) (d1 : List (Int × Int × Int × Int × Int × List UInt8)) (d2 : List (List UInt8)) (d3 : List (List (Int × Int × Int × Int × Int × List UInt8))) : T.stepF rf rb 42 (d1, d2, d3) = r42 rf rb d1 d2 d3 := by kernel_rfl
theorem or42 {d1 : List (Int × Int × Int × Int × Int × List UInt8)} {d2 : List (List UInt8)} {d3 : List (List (Int × Int × Int × Int × Int × List UInt8))} {y : Bool} (h : r42 T.rf T.rb d1 d2 d3 = some y) : c42 T.rf d1 d2 d3 = some y := T.rf_of (f := 42) (d := (d1, d2, d3)) ((er42 T.rf T.rb d1 d2 d3).trans h)

/- bailmentlaw03.TreeOrder -/
noncomputable def r45 (rf : T.RF) (rb : T.RB) (d1 : List (Int × Int × Int × Int × Int × List UInt8)) : Option Bool :=
  (c1 rf d1 300).bind fun (y1 : Bool) =>
  bif !y1 then
    (c2 rf).bind fun (y2 : Bool) =>
    some y2
  else
    (c8 rf d1).bind fun (y3 : Bool) =>
    bif !y3 then
      (c2 rf).bind fun (y4 : Bool) =>
      some y4
    else
      (c17 rf d1 (IntKind.i64.wrap ((((d1.length : Nat) : Int)) - 1))).bind fun (y5 : List (Int × Int × Int × Int × Int × List UInt8)) =>
      (c17 rf y5 (IntKind.i64.wrap ((((y5.length : Nat) : Int)) - 1))).bind fun (y6 : List (Int × Int × Int × Int × Int × List UInt8)) =>
      (c8 rf y5).bind fun (y7 : Bool) =>
      bif y7 then
        bif (((y5.length : Nat) : Int)) == (((d1.length : Nat) : Int)) then
          (c12 rf y5).bind fun (y8 : Int) =>
          (c12 rf d1).bind fun (y9 : Int) =>
          bif y8 == y9 then
            (c20 rf y5 y6).bind fun (y10 : Bool) =>
            bif y10 then
              (c2 rf).bind fun (y11 : Bool) =>
              some y11
            else
              some false
          else
            some false
        else
          some false
      else
        some false
theorem er45 (rf : T.RF) (rb : T.RB) (d1 : List (Int × Int × Int × Int × Int × List UInt8)) : T.stepF rf rb 45 d1 = r45 rf rb d1 := by kernel_rfl
theorem or45 {d1 : List (Int × Int × Int × Int × Int × List UInt8)} {y : Bool} (h : r45 T.rf T.rb d1 = some y) : c45 T.rf d1 = some y := T.rf_of (f := 45) (d := d1) ((er45 T.rf T.rb d1).trans h)

/- bailmentlaw03.TreeApart -/
noncomputable def r46 (rf : T.RF) (rb : T.RB) (d1 : List (Int × Int × Int × Int × Int × List UInt8)) (d2 : List (Int × Int × Int × Int × Int × List UInt8)) : Option Bool :=
  (c1 rf d1 100).bind fun (y1 : Bool) =>
  bif !y1 then
    (c2 rf).bind fun (y2 : Bool) =>
    some y2
  else
    (c1 rf d2 100).bind fun (y3 : Bool) =>
    bif !y3 then
      (c2 rf).bind fun (y4 : Bool) =>
      some y4
    else
      (c8 rf d1).bind fun (y5 : Bool) =>
      bif !y5 then
        (c2 rf).bind fun (y6 : Bool) =>
        some y6
      else
        (c8 rf d2).bind fun (y7 : Bool) =>
        bif !y7 then
          (c2 rf).bind fun (y8 : Bool) =>
          some y8
        else
          (c3 rf 6 0 ([] : List UInt8) [d1, d2]).bind fun (y9 : List (Int × Int × Int × Int × Int × List UInt8)) =>
          bif (((y9.length : Nat) : Int)) != (IntKind.i64.wrap ((IntKind.i64.wrap ((((d1.length : Nat) : Int)) + (((d2.length : Nat) : Int)))) + 1)) then
            some false
          else
            (c12 rf d1).bind fun (y10 : Int) =>
            bif decide (y10 ≥ 40) then
              (c8 rf y9).bind fun (y11 : Bool) =>
              bif !y11 then
                (c2 rf).bind fun (y12 : Bool) =>
                some y12
              else
                some false
            else
              (c12 rf d2).bind fun (y13 : Int) =>
              bif decide (y13 ≥ 40) then
                (c8 rf y9).bind fun (y14 : Bool) =>
                bif !y14 then
                  (c2 rf).bind fun (y15 : Bool) =>
                  some y15
                else
                  some false
              else
              bif inb (IntKind.i64.wrap ((((y9.length : Nat) : Int)) - 1)) y9.length then
                (nth y9 (IntKind.i64.wrap ((((y9.length : Nat) : Int)) - 1)).toNat).bind fun (x16 : Int × Int × Int × Int × Int × List UInt8) =>
                (c17 rf y9 x16.2.1).bind fun (y17 : List (Int × Int × Int × Int × Int × List UInt8)) =>
                bif inb (IntKind.i64.wrap ((((y9.length : Nat) : Int)) - 1)) y9.length then
                  (nth y9 (IntKind.i64.wrap ((((y9.length : Nat) : Int)) - 1)).toNat).bind fun (x18 : Int × Int × Int × Int × Int × List UInt8) =>
                  (c17 rf y9 x18.2.2.1).bind fun (y19 : List (Int × Int × Int × Int × Int × List UInt8)) =>
                  (c8 rf y9).bind fun (y20 : Bool) =>
                  bif y20 then
                    (c17 rf d1 (IntKind.i64.wrap ((((d1.length : Nat) : Int)) - 1))).bind fun (y21 : List (Int × Int × Int × Int × Int × List UInt8)) =>
                    (c20 rf y17 y21).bind fun (y22 : Bool) =>
                    bif y22 then
                      (c17 rf d2 (IntKind.i64.wrap ((((d2.length : Nat) : Int)) - 1))).bind fun (y23 : List (Int × Int × Int × Int × Int × List UInt8)) =>
                      (c20 rf y19 y23).bind fun (y24 : Bool) =>
                      bif y24 then
                        (c2 rf).bind fun (y25 : Bool) =>
                        some y25
                      else
                        some false
                    else
                      some false
                  else
                    some false
                else
                  none
              else
                none
theorem er46 (rf : T.RF) (rb : T.RB) (d1 : List (Int × Int × Int × Int × Int × List UInt8)) (d2 : List (Int × Int × Int × Int × Int × List UInt8)) : T.stepF rf rb 46 (d1, d2) = r46 rf rb d1 d2 := by kernel_rfl
theorem or46 {d1 : List (Int × Int × Int × Int × Int × List UInt8)} {d2 : List (Int × Int × Int × Int × Int × List UInt8)} {y : Bool} (h : r46 T.rf T.rb d1 d2 = some y) : c46 T.rf d1 d2 = some y := T.rf_of (f := 46) (d := (d1, d2)) ((er46 T.rf T.rb d1 d2).trans h)

/- bailmentlaw03.TreeSame loop 0 -/
noncomputable def b70 (rf : T.RF) (rb : T.RB) (d1 : List (List UInt8)) (d2 : List (List (Int × Int × Int × Int × Int × List UInt8))) (d3 : Int) : Option (List (List UInt8) × List (List (Int × Int × Int × Int × Int × List UInt8))) :=
  bif decide (d3 < (((d1.length : Nat) : Int))) then
    bif inb d3 d1.length then
      (nth d1 d3.toNat).bind fun (x1 : List UInt8) =>
      (c3 rf 3 0 x1 []).bind fun (y2 : List (Int × Int × Int × Int × Int × List UInt8)) =>
      bif (Nat.ble (d2.length + 1) most) && true then
        k70 rb d1 (d2 ++ [y2]) (IntKind.i64.wrap (d3 + 1))
      else
        none
    else
      none
  else
    some (d1, d2)
theorem eb70 (rf : T.RF) (rb : T.RB) (d1 : List (List UInt8)) (d2 : List (List (Int × Int × Int × Int × Int × List UInt8))) (d3 : Int) : T.stepB rf rb 70 (d1, d2, d3) = b70 rf rb d1 d2 d3 := by kernel_rfl
theorem ob70 {d1 : List (List UInt8)} {d2 : List (List (Int × Int × Int × Int × Int × List UInt8))} {d3 : Int} {y : (List (List UInt8) × List (List (Int × Int × Int × Int × Int × List UInt8)))} (h : b70 T.rf T.rb d1 d2 d3 = some y) : k70 T.rb d1 d2 d3 = some y := T.rb_of (κ := 70) (d := (d1, d2, d3)) ((eb70 T.rf T.rb d1 d2 d3).trans h)

/- bailmentlaw03.TreeSame -/
noncomputable def r47 (rf : T.RF) (rb : T.RB) (d1 : List (Int × Int × Int × Int × Int × List UInt8)) : Option Bool :=
  (c1 rf d1 100).bind fun (y1 : Bool) =>
  bif !y1 then
    (c2 rf).bind fun (y2 : Bool) =>
    some y2
  else
    (c8 rf d1).bind fun (y3 : Bool) =>
    bif !y3 then
      (c2 rf).bind fun (y4 : Bool) =>
      some y4
    else
      (c21 rf d1).bind fun (y5 : List (List UInt8)) =>
      (k70 rb y5 [] 0).bind fun (z6 : List (List UInt8) × List (List (Int × Int × Int × Int × Int × List UInt8))) =>
      (c7 rf d1 z6.1 z6.2).bind fun (y7 : List (Int × Int × Int × Int × Int × List UInt8)) =>
      (c17 rf d1 (IntKind.i64.wrap ((((d1.length : Nat) : Int)) - 1))).bind fun (y8 : List (Int × Int × Int × Int × Int × List UInt8)) =>
      (c20 rf y7 y8).bind fun (y9 : Bool) =>
      bif y9 then
        (c2 rf).bind fun (y10 : Bool) =>
        some y10
      else
        some false
theorem er47 (rf : T.RF) (rb : T.RB) (d1 : List (Int × Int × Int × Int × Int × List UInt8)) : T.stepF rf rb 47 d1 = r47 rf rb d1 := by kernel_rfl
theorem or47 {d1 : List (Int × Int × Int × Int × Int × List UInt8)} {y : Bool} (h : r47 T.rf T.rb d1 = some y) : c47 T.rf d1 = some y := T.rf_of (f := 47) (d := d1) ((er47 T.rf T.rb d1).trans h)

/- bailmentlaw03.count loop 0 -/
noncomputable def b72 (rf : T.RF) (rb : T.RB) (d1 : List (List UInt8)) (d2 : List UInt8) (d3 : Int) (d4 : Int) : Option Int :=
  bif decide (d4 < (((d1.length : Nat) : Int))) then
    bif inb d4 d1.length then
      (nth d1 d4.toNat).bind fun (x1 : List UInt8) =>
      bif x1 == d2 then
        k72 rb d1 d2 (IntKind.i64.wrap (d3 + 1)) (IntKind.i64.wrap (d4 + 1))
      else
        k72 rb d1 d2 d3 (IntKind.i64.wrap (d4 + 1))
    else
      none
  else
    some d3
theorem eb72 (rf : T.RF) (rb : T.RB) (d1 : List (List UInt8)) (d2 : List UInt8) (d3 : Int) (d4 : Int) : T.stepB rf rb 72 (d1, d2, d3, d4) = b72 rf rb d1 d2 d3 d4 := by kernel_rfl
theorem ob72 {d1 : List (List UInt8)} {d2 : List UInt8} {d3 : Int} {d4 : Int} {y : Int} (h : b72 T.rf T.rb d1 d2 d3 d4 = some y) : k72 T.rb d1 d2 d3 d4 = some y := T.rb_of (κ := 72) (d := (d1, d2, d3, d4)) ((eb72 T.rf T.rb d1 d2 d3 d4).trans h)

/- bailmentlaw03.count -/
noncomputable def r49 (rf : T.RF) (rb : T.RB) (d1 : List (List UInt8)) (d2 : List UInt8) : Option Int :=
  (k72 rb d1 d2 0 0).bind fun (z1 : Int) =>
  some z1
theorem er49 (rf : T.RF) (rb : T.RB) (d1 : List (List UInt8)) (d2 : List UInt8) : T.stepF rf rb 49 (d1, d2) = r49 rf rb d1 d2 := by kernel_rfl
theorem or49 {d1 : List (List UInt8)} {d2 : List UInt8} {y : Int} (h : r49 T.rf T.rb d1 d2 = some y) : c49 T.rf d1 d2 = some y := T.rf_of (f := 49) (d := (d1, d2)) ((er49 T.rf T.rb d1 d2).trans h)

/- bailmentlaw03.TreeVars loop 0 -/
noncomputable def b73 (rf : T.RF) (rb : T.RB) (d1 : List (Int × Int × Int × Int × Int × List UInt8)) (d2 : List (List UInt8)) (d3 : Int) : Option (Bool ⊕ Unit) :=
  bif decide (d3 < (((d1.length : Nat) : Int))) then
    bif inb d3 d1.length then
      (nth d1 d3.toNat).bind fun (x1 : Int × Int × Int × Int × Int × List UInt8) =>
      bif x1.1 == 3 then
        bif inb d3 d1.length then
          (nth d1 d3.toNat).bind fun (x2 : Int × Int × Int × Int × Int × List UInt8) =>
          (c49 rf d2 x2.2.2.2.2.2).bind fun (y3 : Int) =>
          bif y3 != 1 then
            some (.inl false)
          else
            k73 rb d1 d2 (IntKind.i64.wrap (d3 + 1))
        else
          none
      else
        k73 rb d1 d2 (IntKind.i64.wrap (d3 + 1))
    else
      none
  else
    some (.inr ())
theorem eb73 (rf : T.RF) (rb : T.RB) (d1 : List (Int × Int × Int × Int × Int × List UInt8)) (d2 : List (List UInt8)) (d3 : Int) : T.stepB rf rb 73 (d1, d2, d3) = b73 rf rb d1 d2 d3 := by kernel_rfl
theorem ob73 {d1 : List (Int × Int × Int × Int × Int × List UInt8)} {d2 : List (List UInt8)} {d3 : Int} {y : (Bool ⊕ Unit)} (h : b73 T.rf T.rb d1 d2 d3 = some y) : k73 T.rb d1 d2 d3 = some y := T.rb_of (κ := 73) (d := (d1, d2, d3)) ((eb73 T.rf T.rb d1 d2 d3).trans h)

/- bailmentlaw03.TreeVars loop 2 -/
noncomputable def b74 (rf : T.RF) (rb : T.RB) (d1 : List (Int × Int × Int × Int × Int × List UInt8)) (d2 : List (List UInt8)) (d3 : List (List UInt8)) (d4 : Int) : Option (Bool ⊕ Unit) :=
  bif decide (d4 < (((d3.length : Nat) : Int))) then
    bif inb d4 d3.length then
      (nth d3 d4.toNat).bind fun (x1 : List UInt8) =>
      (c21 rf d1).bind fun (y2 : List (List UInt8)) =>
      (c49 rf y2 x1).bind fun (y3 : Int) =>
      bif y3 != 1 then
        some (.inl false)
      else
      bif inb d4 d3.length then
        (nth d3 d4.toNat).bind fun (x4 : List UInt8) =>
        (c49 rf d2 x4).bind fun (y5 : Int) =>
        bif y5 != 0 then
          some (.inl false)
        else
          k74 rb d1 d2 d3 (IntKind.i64.wrap (d4 + 1))
      else
        none
    else
      none
  else
    some (.inr ())
theorem eb74 (rf : T.RF) (rb : T.RB) (d1 : List (Int × Int × Int × Int × Int × List UInt8)) (d2 : List (List UInt8)) (d3 : List (List UInt8)) (d4 : Int) : T.stepB rf rb 74 (d1, d2, d3, d4) = b74 rf rb d1 d2 d3 d4 := by kernel_rfl
theorem ob74 {d1 : List (Int × Int × Int × Int × Int × List UInt8)} {d2 : List (List UInt8)} {d3 : List (List UInt8)} {d4 : Int} {y : (Bool ⊕ Unit)} (h : b74 T.rf T.rb d1 d2 d3 d4 = some y) : k74 T.rb d1 d2 d3 d4 = some y := T.rb_of (κ := 74) (d := (d1, d2, d3, d4)) ((eb74 T.rf T.rb d1 d2 d3 d4).trans h)

/- bailmentlaw03.TreeVars -/
noncomputable def r48 (rf : T.RF) (rb : T.RB) (d1 : List (Int × Int × Int × Int × Int × List UInt8)) (d2 : List (Int × Int × Int × Int × Int × List UInt8)) : Option Bool :=
  (c1 rf d1 100).bind fun (y1 : Bool) =>
  bif !y1 then
    (c2 rf).bind fun (y2 : Bool) =>
    some y2
  else
    (c1 rf d2 100).bind fun (y3 : Bool) =>
    bif !y3 then
      (c2 rf).bind fun (y4 : Bool) =>
      some y4
    else
      (c8 rf d1).bind fun (y5 : Bool) =>
      bif !y5 then
        (c2 rf).bind fun (y6 : Bool) =>
        some y6
      else
        (c8 rf d2).bind fun (y7 : Bool) =>
        bif !y7 then
          (c2 rf).bind fun (y8 : Bool) =>
          some y8
        else
          (c21 rf d1).bind fun (y9 : List (List UInt8)) =>
          (k73 rb d1 y9 0).bind fun (z10 : Bool ⊕ Unit) =>
          match z10 with
          | .inl u11 =>
            some u11
          | .inr w12 =>
            (c3 rf 7 0 ([] : List UInt8) [d1, d2]).bind fun (y13 : List (Int × Int × Int × Int × Int × List UInt8)) =>
            (c8 rf y13).bind fun (y14 : Bool) =>
            bif !y14 then
              (c2 rf).bind fun (y15 : Bool) =>
              some y15
            else
              (c21 rf y13).bind fun (y16 : List (List UInt8)) =>
              bif decide ((((y16.length : Nat) : Int)) < (((y9.length : Nat) : Int))) then
                some false
              else
              bif inb' (((y9.length : Nat) : Int)) y16.length then
                (c22 rf (sub y16 (some (0, (y9.length - 0)))) y9).bind fun (y17 : Bool) =>
                bif !y17 then
                  some false
                else
                  (k74 rb d2 y9 y16 (((y9.length : Nat) : Int))).bind fun (z18 : Bool ⊕ Unit) =>
                  match z18 with
                  | .inl u19 =>
                    some u19
                  | .inr w20 =>
                    (c2 rf).bind fun (y21 : Bool) =>
                    some y21
              else
                none
theorem er48 (rf : T.RF) (rb : T.RB) (d1 : List (Int × Int × Int × Int × Int × List UInt8)) (d2 : List (Int × Int × Int × Int × Int × List UInt8)) : T.stepF rf rb 48 (d1, d2) = r48 rf rb d1 d2 := by kernel_rfl
theorem or48 {d1 : List (Int × Int × Int × Int × Int × List UInt8)} {d2 : List (Int × Int × Int × Int × Int × List UInt8)} {y : Bool} (h : r48 T.rf T.rb d1 d2 = some y) : c48 T.rf d1 d2 = some y := T.rf_of (f := 48) (d := (d1, d2)) ((er48 T.rf T.rb d1 d2).trans h)

/- bailmentlaw03.TreePutOff -/
noncomputable def r50 (rf : T.RF) (rb : T.RB) (d1 : List (Int × Int × Int × Int × Int × List UInt8)) (d2 : List (Int × Int × Int × Int × Int × List UInt8)) (d3 : List UInt8) : Option Bool :=
  (c1 rf d1 100).bind fun (y1 : Bool) =>
  bif !y1 then
    (c2 rf).bind fun (y2 : Bool) =>
    some y2
  else
    (c1 rf d2 100).bind fun (y3 : Bool) =>
    bif !y3 then
      (c2 rf).bind fun (y4 : Bool) =>
      some y4
    else
      (c8 rf d1).bind fun (y5 : Bool) =>
      bif !y5 then
        (c2 rf).bind fun (y6 : Bool) =>
        some y6
      else
        (c8 rf d2).bind fun (y7 : Bool) =>
        bif !y7 then
          (c2 rf).bind fun (y8 : Bool) =>
          some y8
        else
          (c7 rf d1 [d3] [d2]).bind fun (y9 : List (Int × Int × Int × Int × Int × List UInt8)) =>
          (c21 rf d1).bind fun (y10 : List (List UInt8)) =>
          (c49 rf y10 d3).bind fun (y11 : Int) =>
          bif y11 == 0 then
            (c17 rf d1 (IntKind.i64.wrap ((((d1.length : Nat) : Int)) - 1))).bind fun (y12 : List (Int × Int × Int × Int × Int × List UInt8)) =>
            (c20 rf y9 y12).bind fun (y13 : Bool) =>
            bif y13 then
              (c2 rf).bind fun (y14 : Bool) =>
              some y14
            else
              some false
          else
            (c8 rf y9).bind fun (y15 : Bool) =>
            bif !y15 then
              (c2 rf).bind fun (y16 : Bool) =>
              some y16
            else
              (c21 rf d2).bind fun (y17 : List (List UInt8)) =>
              (c49 rf y17 d3).bind fun (y18 : Int) =>
              bif decide (y18 > 0) then
                (c2 rf).bind fun (y19 : Bool) =>
                some y19
              else
                (c21 rf y9).bind fun (y20 : List (List UInt8)) =>
                (c49 rf y20 d3).bind fun (y21 : Int) =>
                bif y21 == 0 then
                  (c2 rf).bind fun (y22 : Bool) =>
                  some y22
                else
                  some false
theorem er50 (rf : T.RF) (rb : T.RB) (d1 : List (Int × Int × Int × Int × Int × List UInt8)) (d2 : List (Int × Int × Int × Int × Int × List UInt8)) (d3 : List UInt8) : T.stepF rf rb 50 (d1, d2, d3) = r50 rf rb d1 d2 d3 := by kernel_rfl
theorem or50 {d1 : List (Int × Int × Int × Int × Int × List UInt8)} {d2 : List (Int × Int × Int × Int × Int × List UInt8)} {d3 : List UInt8} {y : Bool} (h : r50 T.rf T.rb d1 d2 d3 = some y) : c50 T.rf d1 d2 d3 = some y := T.rf_of (f := 50) (d := (d1, d2, d3)) ((er50 T.rf T.rb d1 d2 d3).trans h)

theorem place_len : tabs.placeL.length = 75 := rfl
end Go.Proofs.Ytcmdngadpplodaa.R
