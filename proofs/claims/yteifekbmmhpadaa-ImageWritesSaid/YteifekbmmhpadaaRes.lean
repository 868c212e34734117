/-
  OUR OWN, PRINTED BY A PROGRAM OF OURS (table2.py): the table of the functions, and what each comes to.
-/
import Derived.Test.YteifekbmmhpadaaBmRun
import Derived.Test.YteifekbmmhpadaaProg
import Derived.KernelRfl
namespace Go.Proofs.Yteifekbmmhpadaa.R
open Go Go.Bm Go.Proofs
set_option linter.unusedVariables false
set_option linter.unusedSimpArgs false
set_option maxRecDepth 100000

abbrev XI : Type := Int × Int × Int × Int × Int × Int
abbrev XIc : CT := (.prod (.int .i64) (.prod (.int .i64) (.prod (.int .i64) (.prod (.int .i64) (.prod (.int .i64) (.int .i64))))))
abbrev XC : Type := List XI × Int × Int × List Int × List Int
abbrev XCc : CT := (.prod (.list XIc) (.prod (.int .i64) (.prod (.int .i64) (.prod (.list (.int .i64)) (.list (.int .i64))))))
noncomputable def tabs : Tabs := {
  tabL := [(3, .leaf (.int .i64 0)),
  (4, .leaf (.bool false)),
  (5, .leaf (.int .u8 0)),
  (9, .leaf (.str [])),
  (21, .leaf (.int .i32 0)),
  (22, .slice XIc 52),
  (23, .slice (.int .i64) 3),
  (25, .struct [(0, 1, false), (1, 1, false), (2, 1, false), (3, 1, false), (4, 1, false)] [.nils, .int .i64 0, .int .i64 0, .nils, .nils]),
  (28, .leaf (.int .i64 0)),
  (31, .slice XIc 43),
  (33, .struct [(0, 1, false), (1, 1, false), (2, 1, false), (3, 1, false), (4, 1, false)] [.nils, .int .i64 0, .int .i64 0, .nils, .nils]),
  (37, .slice (.int .u8) 5),
  (43, .struct [(0, 1, false), (1, 1, false), (2, 1, false), (3, 1, false), (4, 1, false), (5, 1, false)] [.int .i64 0, .int .i64 0, .int .i64 0, .int .i64 0, .int .i64 0, .int .i64 0]),
  (45, .slice (.int .u8) 5),
  (47, .slice .unit 51),
  (51, .leaf (.nilp)),
  (52, .struct [(0, 1, false), (1, 1, false), (2, 1, false), (3, 1, false), (4, 1, false), (5, 1, false)] [.int .i64 0, .int .i64 0, .int .i64 0, .int .i64 0, .int .i64 0, .int .i64 0]),
  (66, .struct [(0, 1, false), (1, 1, false)] [.str [], .int .i64 0]),
  (70, .map (.int .i64) .bool false),
  (75, .slice .bool 4)]
  eqtL := [43, 52]
  keysL := [(3, [0]), (4, [38]), (5, [39]), (6, [1]), (7, [2]), (8, [3]), (9, [25]), (10, [26]), (11, [23]), (12, [14]), (13, [22]), (14, [4]), (15, [12]), (16, [13]), (17, [27]), (18, [34]), (19, [35]), (20, [28]), (21, [36]), (22, [37]), (23, [24]), (24, [15]), (25, [17]), (26, [19]), (27, [20]), (28, [21]), (29, [5]), (30, [6]), (31, [9]), (32, [11]), (33, [7]), (34, [30]), (35, [31]), (36, [33]), (37, [29]), (38, [16]), (39, [18]), (40, [8]), (41, [10]), (42, [32])]
  kinL := [⟨[], [.agg [.pl XCc]]⟩,
  ⟨[], [.agg [.pl XCc]]⟩,
  ⟨[], []⟩,
  ⟨[], [.agg [.pl XCc]]⟩,
  ⟨[], [.agg [.pl XCc]]⟩,
  ⟨[], [.agg [.pl XCc], .agg [.pl XIc]]⟩,
  ⟨[], [.one (.pl (.int .i64))]⟩,
  ⟨[], [.one (.pl (.int .i64))]⟩,
  ⟨[], [.one (.pl (.int .i64))]⟩,
  ⟨[(true, .box [.mp 1]), (true, .map (.int .i64) .bool false)], [.one (.pl (.list (.int .i64))), .one (.fn 32 [] [some 0])]⟩,
  ⟨[(true, .box [.mp 1]), (true, .map (.int .i64) .bool false)], [.one (.pl (.list (.int .i64))), .one (.fn 32 [] [some 0])]⟩,
  ⟨[(true, .box [.mp 1]), (true, .map (.int .i64) .bool false)], [.one (.pl (.int .i64)), .one (.ptr 0 0)]⟩,
  ⟨[(true, .box [.sl 1]), (true, .arr (.int .u8))], [.one (.ptr 0 0), .one (.pl (.list (.int .i64)))]⟩,
  ⟨[(true, .box [.pl XIc])], [.one (.ptr 0 0)]⟩,
  ⟨[], [.one (.pl .str)]⟩,
  ⟨[], [.one (.pl .str), .one (.pl .str)]⟩,
  ⟨[], [.one (.pl .str), .one (.pl .str)]⟩,
  ⟨[], [.one (.pl .str), .one (.pl .str)]⟩,
  ⟨[], [.one (.pl .str), .one (.pl .str)]⟩,
  ⟨[(true, .box [.pl (.prod .str (.int .i64))])], [.one (.ptr 0 0)]⟩,
  ⟨[(true, .box [.pl (.prod .str (.int .i64))])], [.one (.ptr 0 0)]⟩,
  ⟨[(true, .box [.pl (.prod .str (.int .i64))])], [.one (.ptr 0 0)]⟩,
  ⟨[], [.agg [.pl XCc]]⟩,
  ⟨[], [.agg [.pl XCc], .agg [.pl XCc]]⟩,
  ⟨[], [.one (.pl (.list (.int .i64))), .one (.pl (.list (.int .i64)))]⟩,
  ⟨[], [.agg [.pl XCc]]⟩,
  ⟨[], [.agg [.pl XCc]]⟩,
  ⟨[], [.agg [.pl XCc]]⟩,
  ⟨[], [.agg [.pl XIc]]⟩,
  ⟨[], [.one (.pl (.int .i64))]⟩,
  ⟨[], [.agg [.pl XIc], .one (.pl (.int .i64))]⟩,
  ⟨[], [.agg [.pl XCc], .agg [.pl XIc]]⟩,
  ⟨[], [.one (.pl (.int .i64))]⟩,
  ⟨[(true, .arr .bool)], [.one (.sl 0), .one (.pl (.int .i64))]⟩,
  ⟨[], [.one (.pl (.int .i64))]⟩,
  ⟨[], [.one (.pl (.list (.int .i64)))]⟩,
  ⟨[], [.one (.pl (.int .i64))]⟩,
  ⟨[], [.one (.pl (.int .i64))]⟩,
  ⟨[], [.agg [.pl XCc], .agg [.pl XCc]]⟩,
  ⟨[], [.agg [.pl XCc], .one (.pl (.int .i64)), .one (.pl (.int .u8))]⟩]
  koutsL := [[⟨[], [.one (.pl .bool)]⟩],
  [⟨[], [.one (.pl .bool)]⟩],
  [⟨[], [.one (.pl .bool)]⟩],
  [⟨[], [.one (.pl .str), .one (.pl (.int .i64))]⟩],
  [⟨[], [.one (.pl (.int .i64))]⟩],
  [⟨[], [.one (.pl .bool)]⟩],
  [⟨[], [.one (.pl (.int .i64))]⟩],
  [⟨[], [.one (.pl (.int .i64))]⟩],
  [⟨[], [.one (.pl .bool)]⟩],
  [⟨[(true, .box [.mp 1]), (true, .map (.int .i64) .bool false)], [.one (.pl .bool)]⟩],
  [⟨[(true, .box [.mp 1]), (true, .map (.int .i64) .bool false)], [.one (.pl (.int .i64))]⟩],
  [⟨[(true, .box [.mp 1]), (true, .map (.int .i64) .bool false)], [.one (.pl .bool)]⟩],
  [⟨[(true, .box [.sl 2]), (true, .gone), (true, .arr (.int .u8))], []⟩],
  [⟨[(true, .box [.pl XIc]), (true, .cells [.ptr 0 2])], [.one (.sl 1), .one (.pl .bool)]⟩, ⟨[(true, .box [.pl XIc]), (true, .cells [.ptr 0 1])], [.one (.sl 1), .one (.pl .bool)]⟩, ⟨[(true, .box [.pl XIc]), (true, .cells [.ptr 0 1, .ptr 0 2, .ptr 0 3])], [.one (.sl 1), .one (.pl .bool)]⟩, ⟨[(true, .box [.pl XIc])], [.one (.nils), .one (.pl .bool)]⟩, ⟨[(true, .box [.pl XIc]), (true, .cells [.ptr 0 1, .ptr 0 2, .ptr 0 3, .ptr 0 4])], [.one (.slp 1 0 4), .one (.pl .bool)]⟩, ⟨[(true, .box [.pl XIc]), (true, .cells [.ptr 0 1, .ptr 0 2, .ptr 0 3, .ptr 0 4])], [.one (.slp 1 0 3), .one (.pl .bool)]⟩, ⟨[(true, .box [.pl XIc]), (true, .cells [.ptr 0 1, .ptr 0 2, .ptr 0 3, .ptr 0 4])], [.one (.slp 1 0 2), .one (.pl .bool)]⟩, ⟨[(true, .box [.pl XIc]), (true, .cells [.ptr 0 1, .ptr 0 2, .ptr 0 3, .ptr 0 4])], [.one (.slp 1 0 1), .one (.pl .bool)]⟩, ⟨[(true, .box [.pl XIc]), (true, .cells [.ptr 0 1, .ptr 0 2, .ptr 0 3, .ptr 0 4])], [.one (.slp 1 0 0), .one (.pl .bool)]⟩],
  [⟨[], [.agg [.pl XCc], .one (.pl (.int .i64))]⟩],
  [⟨[], [.one (.pl .bool)]⟩],
  [⟨[], [.one (.pl .bool)]⟩],
  [⟨[], [.one (.pl .str), .one (.pl .bool)]⟩],
  [⟨[], [.one (.pl .str), .one (.pl .bool)]⟩],
  [⟨[(true, .box [.pl (.prod .str (.int .i64))])], [.one (.pl (.int .i64))]⟩],
  [⟨[(true, .box [.pl (.prod .str (.int .i64))]), (true, .arr (.int .i64))], [.one (.sl 1)]⟩],
  [⟨[(true, .box [.pl (.prod .str (.int .i64))])], [.agg [.pl XIc]]⟩],
  [⟨[], [.agg [.pl XCc]]⟩],
  [⟨[], [.one (.pl .bool)]⟩],
  [⟨[], [.one (.pl .bool)]⟩],
  [⟨[], [.agg [.pl XCc]]⟩],
  [⟨[], [.one (.pl .str), .one (.pl (.int .i64))]⟩],
  [⟨[], [.one (.pl (.int .i64))]⟩],
  [⟨[(true, .arr (.int .i64))], [.one (.sl 0), .one (.pl .bool)]⟩],
  [⟨[], [.one (.pl (.int .i64))]⟩],
  [⟨[], [.one (.pl .bool)]⟩],
  [⟨[], [.one (.pl .bool)]⟩],
  [⟨[], [.one (.pl .bool)]⟩],
  [⟨[(true, .arr .bool)], [.one (.pl .bool)]⟩],
  [⟨[], [.one (.pl .str)]⟩],
  [⟨[], [.one (.pl .str)]⟩],
  [⟨[], [.one (.pl .bool)]⟩],
  [⟨[], [.one (.pl (.int .i64))]⟩],
  [⟨[], [.one (.pl .bool)]⟩],
  [⟨[], [.one (.pl .bool)]⟩]]
  bkL := [⟨[1, 3, 4, 36, 37, 38], ⟨[(true, .box [.pl XCc]), (true, .box [.mp 3]), (true, .map (.int .i64) .bool false), (true, .map (.int .i64) .bool false)], [.one (.ptr 0 0), .one (.ptr 1 0), .one (.mp 2), .one (.pl (.list XIc)), .one (.pl (.int .i64)), .one (.pl (.int .i64))]⟩, [1, 3], [(.ret, [2], ⟨[(true, .box [.pl XCc]), (true, .box [.mp 3]), (true, .map (.int .i64) .bool false), (true, .map (.int .i64) .bool false)], [.one (.pl (.int .i64))]⟩), (.norm, [], ⟨[(true, .box [.pl XCc]), (true, .box [.mp 3]), (true, .map (.int .i64) .bool false), (true, .map (.int .i64) .bool false)], []⟩)]⟩,
  ⟨[3, 56, 57, 58], ⟨[(true, .box [.mp 2]), (true, .arr (.int .i64)), (true, .map (.int .i64) .bool false)], [.one (.ptr 0 0), .one (.sl 1), .one (.pl (.int .i64)), .one (.pl (.int .i64))]⟩, [1, 3, 4, 6, 36, 37, 38], [(.ret, [2], ⟨[(true, .box [.mp 2]), (true, .arr (.int .i64)), (true, .map (.int .i64) .bool false)], [.one (.pl (.int .i64))]⟩), (.norm, [], ⟨[(true, .box [.mp 2]), (true, .arr (.int .i64)), (true, .map (.int .i64) .bool false)], []⟩)]⟩,
  ⟨[0, 1, 7, 8], ⟨[(true, .box [.mp 1]), (true, .map (.int .i64) .bool false)], [.one (.pl (.list (.int .i64))), .one (.fn 32 [] [some 0]), .one (.pl (.int .i64)), .one (.pl (.int .i64))]⟩, [], [(.ret, [4], ⟨[(true, .box [.mp 1]), (true, .map (.int .i64) .bool false)], [.one (.pl (.int .i64))]⟩), (.norm, [], ⟨[(true, .box [.mp 1]), (true, .map (.int .i64) .bool false)], []⟩)]⟩,
  noBlk,
  noBlk,
  noBlk,
  noBlk,
  noBlk,
  ⟨[0, 6, 7, 8], ⟨[(true, .box [.sl 1]), (false, .arr (.int .u8))], [.one (.ptr 0 0), .one (.pl (.list (.int .i64))), .one (.pl (.int .i64)), .one (.pl (.int .i64))]⟩, [], [(.norm, [], ⟨[(true, .box [.sl 2]), (true, .gone), (true, .arr (.int .u8))], []⟩)]⟩,
  ⟨[0, 5], ⟨[(true, .box [.sl 1]), (false, .arr (.int .u8))], [.one (.ptr 0 0), .one (.pl (.int .i64))]⟩, [0, 6, 7, 8], [(.norm, [5], ⟨[(true, .box [.sl 2]), (true, .gone), (true, .arr (.int .u8))], [.one (.pl (.int .i64))]⟩)]⟩,
  noBlk,
  ⟨[17, 18, 19], ⟨[], [.one (.pl (.list (.int .i64))), .one (.pl (.int .i64)), .one (.pl (.int .i64))]⟩, [1], [(.ret, [2, 3], ⟨[], [.one (.pl .str), .one (.pl (.int .i64))]⟩), (.norm, [], ⟨[], []⟩)]⟩,
  ⟨[6, 50, 51, 52], ⟨[(true, .box [.sl 1]), (false, .arr (.int .u8))], [.one (.ptr 0 0), .one (.pl (.list XIc)), .one (.pl (.int .i64)), .one (.pl (.int .i64))]⟩, [1, 2, 3, 6], [(.norm, [], ⟨[(true, .box [.sl 2]), (true, .gone), (true, .arr (.int .u8))], []⟩)]⟩,
  ⟨[0, 3, 4], ⟨[(true, .box [.pl (.prod .str (.int .i64))])], [.one (.ptr 0 0), .one (.pl (.int .i64)), .one (.pl (.int .i64))]⟩, [], [(.ret, [2], ⟨[(true, .box [.pl (.prod .str (.int .i64))])], [.one (.pl (.int .i64))]⟩), (.norm, [], ⟨[(true, .box [.pl (.prod .str (.int .i64))])], []⟩)]⟩,
  noBlk,
  ⟨[0, 3, 4], ⟨[(true, .box [.pl (.prod .str (.int .i64))]), (false, .arr (.int .i64))], [.one (.ptr 0 0), .one (.sl 1), .one (.pl (.int .i64))]⟩, [2], [(.norm, [3], ⟨[(true, .box [.pl (.prod .str (.int .i64))]), (true, .gone), (true, .arr (.int .i64))], [.one (.sl 2)]⟩)]⟩,
  noBlk,
  noBlk,
  noBlk,
  noBlk,
  noBlk,
  ⟨[6, 7, 8], ⟨[(true, .box [.pl (.prod .str (.int .i64))]), (true, .box [.sl 2, .pl (.int .i64), .pl (.int .i64), .pl (.list (.int .i64)), .sl 3]), (false, .arr XIc), (true, .arr (.int .i64))], [.one (.ptr 0 0), .one (.ptr 1 0), .one (.pl (.int .i64))]⟩, [0, 2, 3, 6, 7], [(.norm, [], ⟨[(true, .box [.pl (.prod .str (.int .i64))]), (true, .box [.sl 4, .pl (.int .i64), .pl (.int .i64), .pl (.list (.int .i64)), .sl 3]), (true, .gone), (true, .arr (.int .i64)), (true, .arr XIc)], []⟩)]⟩,
  noBlk,
  ⟨[1, 3, 4], ⟨[(true, .box [.pl XCc]), (true, .box [.sl 2, .pl (.int .i64), .pl (.int .i64), .pl (.list (.int .i64)), .pl (.list (.int .i64))]), (false, .arr XIc)], [.one (.ptr 0 0), .one (.ptr 1 0), .one (.pl (.int .i64))]⟩, [2, 3], [(.norm, [], ⟨[(true, .box [.pl XCc]), (true, .box [.sl 3, .pl (.int .i64), .pl (.int .i64), .pl (.list (.int .i64)), .pl (.list (.int .i64))]), (true, .gone), (true, .arr XIc)], []⟩)]⟩,
  ⟨[0, 1, 5], ⟨[], [.one (.pl (.list (.int .i64))), .one (.pl (.list (.int .i64))), .one (.pl (.int .i64))]⟩, [], [(.ret, [4], ⟨[], [.one (.pl .bool)]⟩), (.norm, [], ⟨[], []⟩)]⟩,
  ⟨[2, 3, 5], ⟨[(true, .box [.pl XCc]), (true, .box [.pl XCc])], [.one (.ptr 0 0), .one (.ptr 1 0), .one (.pl (.int .i64))]⟩, [], [(.ret, [4], ⟨[(true, .box [.pl XCc]), (true, .box [.pl XCc])], [.one (.pl .bool)]⟩), (.norm, [], ⟨[(true, .box [.pl XCc]), (true, .box [.pl XCc])], []⟩)]⟩,
  noBlk,
  ⟨[1, 3, 4], ⟨[(true, .box [.pl XCc]), (true, .box [.sl 2, .pl (.int .i64), .pl (.int .i64), .pl (.list (.int .i64)), .pl (.list (.int .i64))]), (false, .arr XIc)], [.one (.ptr 0 0), .one (.ptr 1 0), .one (.pl (.int .i64))]⟩, [2, 3], [(.norm, [], ⟨[(true, .box [.pl XCc]), (true, .box [.sl 3, .pl (.int .i64), .pl (.int .i64), .pl (.list (.int .i64)), .pl (.list (.int .i64))]), (true, .gone), (true, .arr XIc)], []⟩)]⟩,
  ⟨[1, 3, 4, 5, 6], ⟨[(true, .box [.pl XCc]), (true, .arr .bool), (true, .arr .bool)], [.one (.ptr 0 0), .one (.sl 1), .one (.sl 2), .one (.pl .bool), .one (.pl (.int .i64))]⟩, [1, 3], [(.ret, [2], ⟨[(true, .box [.pl XCc]), (true, .arr .bool), (true, .arr .bool)], [.one (.pl (.int .i64))]⟩), (.norm, [], ⟨[(true, .box [.pl XCc]), (true, .arr .bool), (true, .arr .bool)], []⟩)]⟩,
  ⟨[3, 8, 10], ⟨[(true, .arr .bool), (true, .arr (.int .i64))], [.one (.sl 0), .one (.sl 1), .one (.pl (.int .i64))]⟩, [1, 3, 4, 5, 6, 7], [(.ret, [2], ⟨[(true, .arr .bool), (true, .arr (.int .i64))], [.one (.pl (.int .i64))]⟩), (.norm, [], ⟨[(true, .arr .bool), (true, .arr (.int .i64))], []⟩)]⟩,
  ⟨[1, 3, 11], ⟨[(true, .box [.pl XCc]), (true, .arr .bool)], [.one (.ptr 0 0), .one (.sl 1), .one (.pl (.int .i64))]⟩, [], [(.ret, [2], ⟨[(true, .box [.pl XCc]), (true, .arr .bool)], [.one (.pl (.int .i64))]⟩), (.norm, [], ⟨[(true, .box [.pl XCc]), (true, .arr .bool)], []⟩)]⟩,
  ⟨[1, 4], ⟨[(true, .box [.pl XCc])], [.one (.ptr 0 0), .one (.pl (.int .i64))]⟩, [1], [(.ret, [2, 3], ⟨[(true, .box [.pl XCc])], [.one (.pl .str), .one (.pl (.int .i64))]⟩), (.norm, [], ⟨[(true, .box [.pl XCc])], []⟩)]⟩,
  ⟨[0, 3, 4], ⟨[], [.one (.pl (.list (.int .i64))), .one (.pl .str), .one (.pl (.int .i64))]⟩, [2], [(.norm, [3], ⟨[], [.one (.pl .str)]⟩)]⟩,
  ⟨[1, 5, 6], ⟨[(true, .box [.pl XCc])], [.one (.ptr 0 0), .one (.pl .str), .one (.pl (.int .i64))]⟩, [1, 2, 3], [(.norm, [5], ⟨[(true, .box [.pl XCc])], [.one (.pl .str)]⟩)]⟩,
  ⟨[5, 7], ⟨[(true, .box [.pl XIc])], [.one (.pl .str), .one (.ptr 0 0)]⟩, [1, 6], [(.norm, [5], ⟨[(true, .box [.pl XIc])], [.one (.pl .str)]⟩)]⟩,
  ⟨[5, 8, 10], ⟨[(true, .arr (.int .i64))], [.one (.pl .str), .one (.sl 0), .one (.pl (.int .i64))]⟩, [7], [(.norm, [5], ⟨[(true, .arr (.int .i64))], [.one (.pl .str)]⟩)]⟩]
  lkL := [(3, [(0, 11), (2, 12)]), (4, [(0, 0), (2, 1)]), (10, [(0, 2)]), (12, [(0, 8), (2, 9)]), (14, [(0, 21)]), (19, [(0, 13)]), (20, [(0, 15)]), (22, [(0, 23)]), (23, [(0, 25)]), (24, [(0, 24)]), (25, [(0, 27)]), (26, [(0, 31), (2, 33), (4, 35)]), (27, [(0, 28), (2, 29), (4, 30)]), (35, [(0, 32)])]
  tkL := [(26, [(16, 34)])]
  dkL := [(2, [(8, ([], (.take 0 (.take 1 (.take 2 (.take 3 (.take 4 (.take 5 (.take 6 (.take 7 (.take 9 (.only 8 (.only 10 (.only 11 (.take 12 (.take 13 (.take 14 (.take 15 (.take 16 (.take 17 (.take 18 (.take 19 (.take 20 (.take 21 (.take 22 (.take 23 (.take 24 (.take 25 (.take 26 (.take 27 (.take 28 (.take 29 (.take 30 (.take 31 (.take 32 (.take 33 (.take 34 (.take 35 (.take 36 (.take 37 .done))))))))))))))))))))))))))))))))))))))))]),
  (4, [(9, ([], (.take 0 (.take 1 (.take 2 (.take 3 (.take 4 (.take 5 (.take 7 (.take 8 (.take 12 (.alt 6 (.only 9 (.take 10 (.take 11 .done))) (.only 9 (.only 6 (.take 10 (.take 11 .done))))))))))))))))]),
  (13, [(10, ([], (.take 0 (.take 1 (.take 2 (.take 3 (.take 4 (.take 5 (.take 6 (.take 7 (.take 8 (.only 9 (.take 10 (.take 11 .done)))))))))))))), (14, ([], (.take 0 (.take 1 (.take 2 (.take 3 (.take 4 (.take 5 (.take 6 (.take 7 (.take 8 (.take 9 (.take 10 (.take 11 (.take 13 (.take 14 (.only 12 (.take 15 (.take 16 (.take 17 .done))))))))))))))))))))]),
  (14, [(14, ([6, 7], (.take 0 (.take 2 (.alt 1 (.only 3 (.only 4 (.only 5 (.take 6 (.only 7 .done))))) (.only 3 (.alt 1 (.only 4 (.only 5 (.take 6 (.only 7 .done)))) (.only 4 (.only 1 (.only 5 (.take 6 (.only 7 .done)))))))))))), (17, ([2], (.take 0 (.take 1 (.take 2 (.take 3 (.take 4 (.only 5 (.take 6 .done)))))))))]),
  (23, [(6, ([], (.take 0 (.take 1 (.take 2 (.take 3 (.take 4 (.take 5 (.take 6 (.take 7 (.take 8 (.take 9 (.take 10 .done)))))))))))))]),
  (24, [(6, ([], (.take 0 (.take 1 (.take 2 (.take 3 (.take 4 (.take 5 (.take 6 (.take 7 (.take 8 .done)))))))))))]),
  (26, [(8, ([], (.take 0 (.take 1 (.take 4 (.take 5 (.take 8 (.take 9 (.take 12 (.take 13 (.take 14 (.only 2 (.take 3 (.only 6 (.take 7 (.only 10 (.take 11 (.only 15 (.take 16 (.take 17 .done))))))))))))))))))))]),
  (34, [(3, ([], (.take 0 (.take 1 (.take 2 (.take 3 (.take 6 (.take 7 (.alt 4 (.alt 5 (.only 8 (.take 9 (.take 10 .done))) (.only 8 (.only 5 (.take 9 (.take 10 .done))))) (.only 8 (.only 4 (.only 5 (.take 9 (.take 10 .done))))))))))))))]),
  (39, [(9, ([], (.take 0 (.take 1 (.take 2 (.take 3 (.take 5 (.only 4 (.only 6 (.take 7 (.take 8 (.take 9 (.only 10 (.take 11 (.take 12 .done)))))))))))))))])]
  fnumL := [3, 6, 7, 8, 14, 29, 30, 33, 40, 31, 41, 32, 15, 16, 12, 24, 38, 25, 39, 26, 27, 28, 13, 11, 23, 9, 10, 17, 20, 37, 34, 35, 42, 36, 18, 19, 21, 22, 4, 5]
  fnL := [Try.f3, Try.f6, Try.f7, Try.f8, Try.f14, Try.f29, Try.f30, Try.f33, Try.f40, Try.f31, Try.f41, Try.f32, Try.f15, Try.f16, Try.f12, Try.f24, Try.f38, Try.f25, Try.f39, Try.f26, Try.f27, Try.f28, Try.f13, Try.f11, Try.f23, Try.f9, Try.f10, Try.f17, Try.f20, Try.f37, Try.f34, Try.f35, Try.f42, Try.f36, Try.f18, Try.f19, Try.f21, Try.f22, Try.f4, Try.f5]
  placeL := [(4, [true, true, true, false, true]), (4, [true, true, true, false, true, false, false, true, true, false, false, true, true, false, true]), (10, [true, false, true]), (0, []), (0, []), (0, []), (0, []), (0, []), (12, [true]), (12, [true, false, false, true, true, false, false, true, false]), (0, []), (3, [true, true, false, true]), (3, [true, true, true, true, true, true, true, false, true]), (19, [true, true, false, true]), (0, []), (20, [true, true, false, true]), (0, []), (0, []), (0, []), (0, []), (0, []), (14, [true, true, true, true, true, true, true, true, true, false, true]), (0, []), (22, [true, true, false, true]), (24, [true, true, false, true]), (23, [true, true, false, true]), (0, []), (25, [true, true, false, true]), (27, [true, true, true, true, true, false, true]), (27, [true, true, true, true, true, false, true, false, false, true, false, false, true, true, true, false, true]), (27, [true, true, true, true, true, true, false, true]), (26, [true, true, false, true]), (35, [true, true, false, true]), (26, [true, true, true, true, false, true]), (26, [true, true, true, true, false, true, false, false, true, false, false, true, true, true]), (26, [true, true, true, true, false, true, false, false, true, false, false, true, true, true, true, false, true])] }
noncomputable def T : Tbl := tabs.tbl fun _ _ => none

noncomputable def c0 (rf : T.RF) (d1 : XC) : Option Bool := rf 0 d1
noncomputable def c1 (rf : T.RF) (d1 : XC) : Option Bool := rf 1 d1
noncomputable def c2 (rf : T.RF) : Option Bool := rf 2 ()
noncomputable def c3 (rf : T.RF) (d1 : XC) : Option (List UInt8 × Int) := rf 3 d1
noncomputable def c4 (rf : T.RF) (d1 : XC) : Option Int := rf 4 d1
noncomputable def c5 (rf : T.RF) (d1 : XC) (d2 : XI) : Option Bool := rf 5 (d1, d2)
noncomputable def c6 (rf : T.RF) (d1 : Int) : Option Int := rf 6 d1
noncomputable def c7 (rf : T.RF) (d1 : Int) : Option Int := rf 7 d1
noncomputable def c8 (rf : T.RF) (d1 : Int) : Option Bool := rf 8 d1
noncomputable def c9 (rf : T.RF) (d1 : List (Int × Bool)) (d2 : List Int) : Option (List (Int × Bool) × Bool) := rf 9 (d1, d2)
noncomputable def c10 (rf : T.RF) (d1 : List (Int × Bool)) (d2 : List Int) : Option (List (Int × Bool) × Int) := rf 10 (d1, d2)
noncomputable def c11 (rf : T.RF) (d1 : List (Int × Bool)) (d2 : Int) : Option (List (Int × Bool) × Bool) := rf 11 (d1, d2)
noncomputable def c12 (rf : T.RF) (d1 : List Int) (d2 : List Int) : Option (List Int) := rf 12 (d1, d2)
noncomputable def c13 (rf : T.RF) (d1 : XI) : Option ((XI × Bool) ⊕ (XI × Bool) ⊕ (XI × Bool) ⊕ (XI × Bool) ⊕ (XI × Bool) ⊕ (XI × Bool) ⊕ (XI × Bool) ⊕ (XI × Bool) ⊕ (XI × Bool)) := rf 13 d1
noncomputable def c14 (rf : T.RF) (d1 : List UInt8) : Option (XC × Int) := rf 14 d1
noncomputable def c15 (rf : T.RF) (d1 : List UInt8) (d2 : List UInt8) : Option Bool := rf 15 (d1, d2)
noncomputable def c16 (rf : T.RF) (d1 : List UInt8) (d2 : List UInt8) : Option Bool := rf 16 (d1, d2)
noncomputable def c17 (rf : T.RF) (d1 : List UInt8) (d2 : List UInt8) : Option (List UInt8 × Bool) := rf 17 (d1, d2)
noncomputable def c18 (rf : T.RF) (d1 : List UInt8) (d2 : List UInt8) : Option (List UInt8 × Bool) := rf 18 (d1, d2)
noncomputable def c19 (rf : T.RF) (d1 : List UInt8 × Int) : Option ((List UInt8 × Int) × Int) := rf 19 d1
noncomputable def c20 (rf : T.RF) (d1 : List UInt8 × Int) : Option ((List UInt8 × Int) × List Int) := rf 20 d1
noncomputable def c21 (rf : T.RF) (d1 : List UInt8 × Int) : Option ((List UInt8 × Int) × XI) := rf 21 d1
noncomputable def c22 (rf : T.RF) (d1 : XC) : Option XC := rf 22 d1
noncomputable def c23 (rf : T.RF) (d1 : XC) (d2 : XC) : Option Bool := rf 23 (d1, d2)
noncomputable def c24 (rf : T.RF) (d1 : List Int) (d2 : List Int) : Option Bool := rf 24 (d1, d2)
noncomputable def c25 (rf : T.RF) (d1 : XC) : Option XC := rf 25 d1
noncomputable def c26 (rf : T.RF) (d1 : XC) : Option (List UInt8 × Int) := rf 26 d1
noncomputable def c27 (rf : T.RF) (d1 : XC) : Option Int := rf 27 d1
noncomputable def c28 (rf : T.RF) (d1 : XI) : Option (List Int × Bool) := rf 28 d1
noncomputable def c29 (rf : T.RF) (d1 : Int) : Option Int := rf 29 d1
noncomputable def c30 (rf : T.RF) (d1 : XI) (d2 : Int) : Option Bool := rf 30 (d1, d2)
noncomputable def c31 (rf : T.RF) (d1 : XC) (d2 : XI) : Option Bool := rf 31 (d1, d2)
noncomputable def c32 (rf : T.RF) (d1 : Int) : Option Bool := rf 32 d1
noncomputable def c33 (rf : T.RF) (d1 : List Bool) (d2 : Int) : Option (List Bool × Bool) := rf 33 (d1, d2)
noncomputable def c34 (rf : T.RF) (d1 : Int) : Option (List UInt8) := rf 34 d1
noncomputable def c35 (rf : T.RF) (d1 : List Int) : Option (List UInt8) := rf 35 d1
noncomputable def c36 (rf : T.RF) (d1 : Int) : Option Bool := rf 36 d1
noncomputable def c37 (rf : T.RF) (d1 : Int) : Option Int := rf 37 d1
noncomputable def c38 (rf : T.RF) (d1 : XC) (d2 : XC) : Option Bool := rf 38 (d1, d2)
noncomputable def c39 (rf : T.RF) (d1 : XC) (d2 : Int) (d3 : Int) : Option Bool := rf 39 (d1, d2, d3)
noncomputable def k0 (rb : T.RB) (d1 : XC) (d2 : List (Int × Bool)) (d3 : List (Int × Bool)) (d4 : List XI) (d5 : Int) (d6 : Int) : Option ((XC × List (Int × Bool) × List (Int × Bool) × Int) ⊕ (XC × List (Int × Bool) × List (Int × Bool))) := rb 0 (d1, d2, d3, d4, d5, d6)
noncomputable def k1 (rb : T.RB) (d1 : List Int) (d2 : List (Int × Bool)) (d3 : Int) (d4 : Int) : Option ((List Int × List (Int × Bool) × Int) ⊕ (List Int × List (Int × Bool))) := rb 1 (d1, d2, d3, d4)
noncomputable def k2 (rb : T.RB) (d1 : List (Int × Bool)) (d2 : List Int) (d3 : Int) (d4 : Int) : Option ((List (Int × Bool) × Int) ⊕ (List (Int × Bool))) := rb 2 (d1, d2, d3, d4)
noncomputable def k8 (rb : T.RB) (d1 : List Int) (d2 : List Int) (d3 : Int) (d4 : Int) : Option (List Int) := rb 8 (d1, d2, d3, d4)
noncomputable def k9 (rb : T.RB) (d1 : List Int) (d2 : Int) : Option (List Int × Int) := rb 9 (d1, d2)
noncomputable def k11 (rb : T.RB) (d1 : List Int) (d2 : Int) (d3 : Int) : Option ((List UInt8 × Int) ⊕ Unit) := rb 11 (d1, d2, d3)
noncomputable def k12 (rb : T.RB) (d1 : List Int) (d2 : List XI) (d3 : Int) (d4 : Int) : Option (List Int) := rb 12 (d1, d2, d3, d4)
noncomputable def k13 (rb : T.RB) (d1 : List UInt8 × Int) (d2 : Int) (d3 : Int) : Option (((List UInt8 × Int) × Int) ⊕ (List UInt8 × Int)) := rb 13 (d1, d2, d3)
noncomputable def k15 (rb : T.RB) (d1 : List UInt8 × Int) (d2 : List Int) (d3 : Int) : Option ((List UInt8 × Int) × List Int) := rb 15 (d1, d2, d3)
noncomputable def k21 (rb : T.RB) (d1 : List UInt8 × Int) (d2 : Int) (d3 : Int) (d4 : List Int) (d5 : List XI) (d6 : List Int) (d7 : Int) : Option ((List UInt8 × Int) × Int × Int × List Int × List Int × List XI) := rb 21 (d1, d2, d3, d4, d5, d6, d7)
noncomputable def k23 (rb : T.RB) (d1 : XC) (d2 : Int) (d3 : Int) (d4 : List Int) (d5 : List Int) (d6 : List XI) (d7 : Int) : Option (XC × Int × Int × List Int × List Int × List XI) := rb 23 (d1, d2, d3, d4, d5, d6, d7)
noncomputable def k24 (rb : T.RB) (d1 : List Int) (d2 : List Int) (d3 : Int) : Option (Bool ⊕ Unit) := rb 24 (d1, d2, d3)
noncomputable def k25 (rb : T.RB) (d1 : XC) (d2 : XC) (d3 : Int) : Option ((XC × XC × Bool) ⊕ (XC × XC)) := rb 25 (d1, d2, d3)
noncomputable def k27 (rb : T.RB) (d1 : XC) (d2 : Int) (d3 : Int) (d4 : List Int) (d5 : List Int) (d6 : List XI) (d7 : Int) : Option (XC × Int × Int × List Int × List Int × List XI) := rb 27 (d1, d2, d3, d4, d5, d6, d7)
noncomputable def k28 (rb : T.RB) (d1 : XC) (d2 : List Bool) (d3 : List Bool) (d4 : Bool) (d5 : Int) : Option ((XC × List Bool × List Bool × Int) ⊕ (XC × List Bool × List Bool)) := rb 28 (d1, d2, d3, d4, d5)
noncomputable def k29 (rb : T.RB) (d1 : List Bool) (d2 : List Int) (d3 : Int) : Option ((List Bool × List Int × Int) ⊕ (List Bool × List Int)) := rb 29 (d1, d2, d3)
noncomputable def k30 (rb : T.RB) (d1 : XC) (d2 : List Bool) (d3 : Int) : Option ((XC × List Bool × Int) ⊕ (XC × List Bool)) := rb 30 (d1, d2, d3)
noncomputable def k31 (rb : T.RB) (d1 : XC) (d2 : Int) : Option ((XC × List UInt8 × Int) ⊕ XC) := rb 31 (d1, d2)
noncomputable def k32 (rb : T.RB) (d1 : List Int) (d2 : List UInt8) (d3 : Int) : Option (List UInt8) := rb 32 (d1, d2, d3)
noncomputable def k33 (rb : T.RB) (d1 : XC) (d2 : List UInt8) (d3 : Int) : Option (XC × List UInt8) := rb 33 (d1, d2, d3)
noncomputable def k34 (rb : T.RB) (d1 : XI) (d2 : List UInt8) : Option (XI × List UInt8) := rb 34 (d1, d2)
noncomputable def k35 (rb : T.RB) (d1 : List Int) (d2 : List UInt8) (d3 : Int) : Option (List Int × List UInt8) := rb 35 (d1, d2, d3)

/- bailmentref16.Small -/
noncomputable def r1 (rf : T.RF) (rb : T.RB) (d1 : XC) : Option Bool :=
  bif decide ((((d1.1.length : Nat) : Int)) ≤ 600) then
    bif decide (d1.2.1 ≤ 300) then
      bif decide (d1.2.2.1 ≤ 300) then
        bif decide ((((d1.2.2.2.1.length : Nat) : Int)) ≤ 60) then
          some (decide ((((d1.2.2.2.2.length : Nat) : Int)) ≤ 60))
        else
          some false
      else
        some false
    else
      some false
  else
    some false
theorem er1 (rf : T.RF) (rb : T.RB) (d1 : XC) : T.stepF rf rb 1 d1 = r1 rf rb d1 := by kernel_rfl
theorem or1 {d1 : XC} {y : Bool} (h : r1 T.rf T.rb d1 = some y) : c1 T.rf d1 = some y := T.rf_of (f := 1) (d := d1) ((er1 T.rf T.rb d1).trans h)

/- num.Operands -/
noncomputable def r7 (rf : T.RF) (rb : T.RB) (d1 : Int) : Option Int :=
  bif d1 == 4 then
    some 1
  else
  bif d1 == 5 then
    some 1
  else
  bif decide (d1 ≥ 6) then
    bif decide (d1 ≤ 18) then
      some 2
    else
    bif d1 == 26 then
      some 3
    else
      some (-1)
  else
  bif d1 == 26 then
    some 3
  else
    some (-1)
theorem er7 (rf : T.RF) (rb : T.RB) (d1 : Int) : T.stepF rf rb 7 d1 = r7 rf rb d1 := by kernel_rfl
theorem or7 {d1 : Int} {y : Int} (h : r7 T.rf T.rb d1 = some y) : c7 T.rf d1 = some y := T.rf_of (f := 7) (d := d1) ((er7 T.rf T.rb d1).trans h)

/- code.reads -/
noncomputable def r6 (rf : T.RF) (rb : T.RB) (d1 : Int) : Option Int :=
  bif d1 == 3 then
    bif d1 == 3 then
      some 0
    else
    bif d1 == 30 then
      some 1
    else
    bif d1 == 19 then
      some 2
    else
      (c7 rf d1).bind fun (y1 : Int) =>
      some y1
  else
  bif d1 == 1 then
    bif d1 == 1 then
      some 0
    else
    bif d1 == 30 then
      some 1
    else
    bif d1 == 19 then
      some 2
    else
      (c7 rf d1).bind fun (y2 : Int) =>
      some y2
  else
  bif d1 == 2 then
    bif d1 == 2 then
      some 0
    else
    bif d1 == 30 then
      some 1
    else
    bif d1 == 19 then
      some 2
    else
      (c7 rf d1).bind fun (y3 : Int) =>
      some y3
  else
  bif d1 == 21 then
    some 0
  else
  bif d1 == 30 then
    some 1
  else
  bif d1 == 19 then
    some 2
  else
    (c7 rf d1).bind fun (y4 : Int) =>
    some y4
theorem er6 (rf : T.RF) (rb : T.RB) (d1 : Int) : T.stepF rf rb 6 d1 = r6 rf rb d1 := by kernel_rfl
theorem or6 {d1 : Int} {y : Int} (h : r6 T.rf T.rb d1 = some y) : c6 T.rf d1 = some y := T.rf_of (f := 6) (d := d1) ((er6 T.rf T.rb d1).trans h)

/- num.Fits -/
noncomputable def r8 (rf : T.RF) (rb : T.RB) (d1 : Int) : Option Bool :=
  some ((IntKind.i64.wrap (IntKind.i32.wrap d1)) == d1)
theorem er8 (rf : T.RF) (rb : T.RB) (d1 : Int) : T.stepF rf rb 8 d1 = r8 rf rb d1 := by kernel_rfl
theorem or8 {d1 : Int} {y : Bool} (h : r8 T.rf T.rb d1 = some y) : c8 T.rf d1 = some y := T.rf_of (f := 8) (d := d1) ((er8 T.rf T.rb d1).trans h)

/- (bailment/code.Code).isPlain -/
noncomputable def r5 (rf : T.RF) (rb : T.RB) (d1 : XC) (d2 : XI) : Option Bool :=
  (c6 rf d2.1).bind fun (y1 : Int) =>
  bif decide (0 ≥ y1) then
    bif decide (1 ≥ y1) then
      bif decide (2 ≥ y1) then
        bif d2.1 == 30 then
          bif decide (y1 ≥ 0) then
            bif (d2.1 == d2.1) && ((d2.2.1 == 0) && ((d2.2.2.1 == 0) && ((d2.2.2.2.1 == 0) && ((d2.2.2.2.2.1 == 0) && (d2.2.2.2.2.2 == d2.2.2.2.2.2))))) then
              bif decide (d2.2.2.2.2.2 ≥ 0) then
                some (decide (d2.2.2.2.2.2 ≤ (IntKind.i64.wrap (d1.2.2.1 - 1))))
              else
                some false
            else
              some false
          else
            some false
        else
        bif d2.1 == 21 then
          bif decide (y1 ≥ 0) then
            bif (d2.1 == d2.1) && ((d2.2.1 == d2.2.1) && ((d2.2.2.1 == 0) && ((d2.2.2.2.1 == 0) && ((d2.2.2.2.2.1 == 0) && (d2.2.2.2.2.2 == d2.2.2.2.2.2))))) then
              bif decide (d2.2.2.2.2.2 ≥ 0) then
                some (decide (d2.2.2.2.2.2 ≤ (IntKind.i64.wrap (d1.2.2.1 - 1))))
              else
                some false
            else
              some false
          else
            some false
        else
        bif d2.1 == 3 then
          bif decide (y1 ≥ 0) then
            bif (d2.1 == d2.1) && ((d2.2.1 == d2.2.1) && ((d2.2.2.1 == 0) && ((d2.2.2.2.1 == 0) && ((d2.2.2.2.2.1 == 0) && (d2.2.2.2.2.2 == d2.2.2.2.2.2))))) then
              bif decide (d2.2.2.2.2.2 ≥ 0) then
                some (decide (d2.2.2.2.2.2 ≤ (IntKind.i64.wrap ((((d1.2.2.2.2.length : Nat) : Int)) - 1))))
              else
                some false
            else
              some false
          else
            some false
        else
        bif d2.1 == 2 then
          bif decide (y1 ≥ 0) then
            bif (d2.1 == d2.1) && ((d2.2.1 == d2.2.1) && ((d2.2.2.1 == 0) && ((d2.2.2.2.1 == 0) && ((d2.2.2.2.2.1 == 0) && (d2.2.2.2.2.2 == d2.2.2.2.2.2))))) then
              bif decide (d2.2.2.2.2.2 ≥ 0) then
                some (decide (d2.2.2.2.2.2 ≤ 1))
              else
                some false
            else
              some false
          else
            some false
        else
        bif d2.1 == 1 then
          bif (d2.1 == d2.1) && ((d2.2.1 == d2.2.1) && ((d2.2.2.1 == 0) && ((d2.2.2.2.1 == 0) && ((d2.2.2.2.2.1 == 0) && (d2.2.2.2.2.2 == d2.2.2.2.2.2))))) then
            (c8 rf d2.2.2.2.2.2).bind fun (y2 : Bool) =>
            some y2
          else
            some false
        else
        bif decide (y1 ≥ 0) then
          bif (d2.1 == d2.1) && ((d2.2.1 == d2.2.1) && ((d2.2.2.1 == 0) && ((d2.2.2.2.1 == 0) && ((d2.2.2.2.2.1 == 0) && (d2.2.2.2.2.2 == 0))))) then
            bif decide (d2.2.2.2.2.2 ≥ 0) then
              some (decide (d2.2.2.2.2.2 ≤ 0))
            else
              some false
          else
            some false
        else
          some false
      else
      bif d2.1 == 30 then
        bif decide (y1 ≥ 0) then
          bif (d2.1 == d2.1) && ((d2.2.1 == 0) && ((d2.2.2.1 == 0) && ((d2.2.2.2.1 == 0) && ((d2.2.2.2.2.1 == d2.2.2.2.2.1) && (d2.2.2.2.2.2 == d2.2.2.2.2.2))))) then
            bif decide (d2.2.2.2.2.2 ≥ 0) then
              some (decide (d2.2.2.2.2.2 ≤ (IntKind.i64.wrap (d1.2.2.1 - 1))))
            else
              some false
          else
            some false
        else
          some false
      else
      bif d2.1 == 21 then
        bif decide (y1 ≥ 0) then
          bif (d2.1 == d2.1) && ((d2.2.1 == d2.2.1) && ((d2.2.2.1 == 0) && ((d2.2.2.2.1 == 0) && ((d2.2.2.2.2.1 == d2.2.2.2.2.1) && (d2.2.2.2.2.2 == d2.2.2.2.2.2))))) then
            bif decide (d2.2.2.2.2.2 ≥ 0) then
              some (decide (d2.2.2.2.2.2 ≤ (IntKind.i64.wrap (d1.2.2.1 - 1))))
            else
              some false
          else
            some false
        else
          some false
      else
      bif d2.1 == 3 then
        bif decide (y1 ≥ 0) then
          bif (d2.1 == d2.1) && ((d2.2.1 == d2.2.1) && ((d2.2.2.1 == 0) && ((d2.2.2.2.1 == 0) && ((d2.2.2.2.2.1 == d2.2.2.2.2.1) && (d2.2.2.2.2.2 == d2.2.2.2.2.2))))) then
            bif decide (d2.2.2.2.2.2 ≥ 0) then
              some (decide (d2.2.2.2.2.2 ≤ (IntKind.i64.wrap ((((d1.2.2.2.2.length : Nat) : Int)) - 1))))
            else
              some false
          else
            some false
        else
          some false
      else
      bif d2.1 == 2 then
        bif decide (y1 ≥ 0) then
          bif (d2.1 == d2.1) && ((d2.2.1 == d2.2.1) && ((d2.2.2.1 == 0) && ((d2.2.2.2.1 == 0) && ((d2.2.2.2.2.1 == d2.2.2.2.2.1) && (d2.2.2.2.2.2 == d2.2.2.2.2.2))))) then
            bif decide (d2.2.2.2.2.2 ≥ 0) then
              some (decide (d2.2.2.2.2.2 ≤ 1))
            else
              some false
          else
            some false
        else
          some false
      else
      bif d2.1 == 1 then
        bif (d2.1 == d2.1) && ((d2.2.1 == d2.2.1) && ((d2.2.2.1 == 0) && ((d2.2.2.2.1 == 0) && ((d2.2.2.2.2.1 == d2.2.2.2.2.1) && (d2.2.2.2.2.2 == d2.2.2.2.2.2))))) then
          (c8 rf d2.2.2.2.2.2).bind fun (y3 : Bool) =>
          some y3
        else
          some false
      else
      bif decide (y1 ≥ 0) then
        bif (d2.1 == d2.1) && ((d2.2.1 == d2.2.1) && ((d2.2.2.1 == 0) && ((d2.2.2.2.1 == 0) && ((d2.2.2.2.2.1 == d2.2.2.2.2.1) && (d2.2.2.2.2.2 == 0))))) then
          bif decide (d2.2.2.2.2.2 ≥ 0) then
            some (decide (d2.2.2.2.2.2 ≤ 0))
          else
            some false
        else
          some false
      else
        some false
    else
    bif decide (2 ≥ y1) then
      bif d2.1 == 30 then
        bif decide (y1 ≥ 0) then
          bif (d2.1 == d2.1) && ((d2.2.1 == 0) && ((d2.2.2.1 == 0) && ((d2.2.2.2.1 == d2.2.2.2.1) && ((d2.2.2.2.2.1 == 0) && (d2.2.2.2.2.2 == d2.2.2.2.2.2))))) then
            bif decide (d2.2.2.2.2.2 ≥ 0) then
              some (decide (d2.2.2.2.2.2 ≤ (IntKind.i64.wrap (d1.2.2.1 - 1))))
            else
              some false
          else
            some false
        else
          some false
      else
      bif d2.1 == 21 then
        bif decide (y1 ≥ 0) then
          bif (d2.1 == d2.1) && ((d2.2.1 == d2.2.1) && ((d2.2.2.1 == 0) && ((d2.2.2.2.1 == d2.2.2.2.1) && ((d2.2.2.2.2.1 == 0) && (d2.2.2.2.2.2 == d2.2.2.2.2.2))))) then
            bif decide (d2.2.2.2.2.2 ≥ 0) then
              some (decide (d2.2.2.2.2.2 ≤ (IntKind.i64.wrap (d1.2.2.1 - 1))))
            else
              some false
          else
            some false
        else
          some false
      else
      bif d2.1 == 3 then
        bif decide (y1 ≥ 0) then
          bif (d2.1 == d2.1) && ((d2.2.1 == d2.2.1) && ((d2.2.2.1 == 0) && ((d2.2.2.2.1 == d2.2.2.2.1) && ((d2.2.2.2.2.1 == 0) && (d2.2.2.2.2.2 == d2.2.2.2.2.2))))) then
            bif decide (d2.2.2.2.2.2 ≥ 0) then
              some (decide (d2.2.2.2.2.2 ≤ (IntKind.i64.wrap ((((d1.2.2.2.2.length : Nat) : Int)) - 1))))
            else
              some false
          else
            some false
        else
          some false
      else
      bif d2.1 == 2 then
        bif decide (y1 ≥ 0) then
          bif (d2.1 == d2.1) && ((d2.2.1 == d2.2.1) && ((d2.2.2.1 == 0) && ((d2.2.2.2.1 == d2.2.2.2.1) && ((d2.2.2.2.2.1 == 0) && (d2.2.2.2.2.2 == d2.2.2.2.2.2))))) then
            bif decide (d2.2.2.2.2.2 ≥ 0) then
              some (decide (d2.2.2.2.2.2 ≤ 1))
            else
              some false
          else
            some false
        else
          some false
      else
      bif d2.1 == 1 then
        bif (d2.1 == d2.1) && ((d2.2.1 == d2.2.1) && ((d2.2.2.1 == 0) && ((d2.2.2.2.1 == d2.2.2.2.1) && ((d2.2.2.2.2.1 == 0) && (d2.2.2.2.2.2 == d2.2.2.2.2.2))))) then
          (c8 rf d2.2.2.2.2.2).bind fun (y4 : Bool) =>
          some y4
        else
          some false
      else
      bif decide (y1 ≥ 0) then
        bif (d2.1 == d2.1) && ((d2.2.1 == d2.2.1) && ((d2.2.2.1 == 0) && ((d2.2.2.2.1 == d2.2.2.2.1) && ((d2.2.2.2.2.1 == 0) && (d2.2.2.2.2.2 == 0))))) then
          bif decide (d2.2.2.2.2.2 ≥ 0) then
            some (decide (d2.2.2.2.2.2 ≤ 0))
          else
            some false
        else
          some false
      else
        some false
    else
    bif d2.1 == 30 then
      bif decide (y1 ≥ 0) then
        bif (d2.1 == d2.1) && ((d2.2.1 == 0) && ((d2.2.2.1 == 0) && ((d2.2.2.2.1 == d2.2.2.2.1) && ((d2.2.2.2.2.1 == d2.2.2.2.2.1) && (d2.2.2.2.2.2 == d2.2.2.2.2.2))))) then
          bif decide (d2.2.2.2.2.2 ≥ 0) then
            some (decide (d2.2.2.2.2.2 ≤ (IntKind.i64.wrap (d1.2.2.1 - 1))))
          else
            some false
        else
          some false
      else
        some false
    else
    bif d2.1 == 21 then
      bif decide (y1 ≥ 0) then
        bif (d2.1 == d2.1) && ((d2.2.1 == d2.2.1) && ((d2.2.2.1 == 0) && ((d2.2.2.2.1 == d2.2.2.2.1) && ((d2.2.2.2.2.1 == d2.2.2.2.2.1) && (d2.2.2.2.2.2 == d2.2.2.2.2.2))))) then
          bif decide (d2.2.2.2.2.2 ≥ 0) then
            some (decide (d2.2.2.2.2.2 ≤ (IntKind.i64.wrap (d1.2.2.1 - 1))))
          else
            some false
        else
          some false
      else
        some false
    else
    bif d2.1 == 3 then
      bif decide (y1 ≥ 0) then
        bif (d2.1 == d2.1) && ((d2.2.1 == d2.2.1) && ((d2.2.2.1 == 0) && ((d2.2.2.2.1 == d2.2.2.2.1) && ((d2.2.2.2.2.1 == d2.2.2.2.2.1) && (d2.2.2.2.2.2 == d2.2.2.2.2.2))))) then
          bif decide (d2.2.2.2.2.2 ≥ 0) then
            some (decide (d2.2.2.2.2.2 ≤ (IntKind.i64.wrap ((((d1.2.2.2.2.length : Nat) : Int)) - 1))))
          else
            some false
        else
          some false
      else
        some false
    else
    bif d2.1 == 2 then
      bif decide (y1 ≥ 0) then
        bif (d2.1 == d2.1) && ((d2.2.1 == d2.2.1) && ((d2.2.2.1 == 0) && ((d2.2.2.2.1 == d2.2.2.2.1) && ((d2.2.2.2.2.1 == d2.2.2.2.2.1) && (d2.2.2.2.2.2 == d2.2.2.2.2.2))))) then
          bif decide (d2.2.2.2.2.2 ≥ 0) then
            some (decide (d2.2.2.2.2.2 ≤ 1))
          else
            some false
        else
          some false
      else
        some false
    else
    bif d2.1 == 1 then
      bif (d2.1 == d2.1) && ((d2.2.1 == d2.2.1) && ((d2.2.2.1 == 0) && ((d2.2.2.2.1 == d2.2.2.2.1) && ((d2.2.2.2.2.1 == d2.2.2.2.2.1) && (d2.2.2.2.2.2 == d2.2.2.2.2.2))))) then
        (c8 rf d2.2.2.2.2.2).bind fun (y5 : Bool) =>
        some y5
      else
        some false
    else
    bif decide (y1 ≥ 0) then
      bif (d2.1 == d2.1) && ((d2.2.1 == d2.2.1) && ((d2.2.2.1 == 0) && ((d2.2.2.2.1 == d2.2.2.2.1) && ((d2.2.2.2.2.1 == d2.2.2.2.2.1) && (d2.2.2.2.2.2 == 0))))) then
        bif decide (d2.2.2.2.2.2 ≥ 0) then
          some (decide (d2.2.2.2.2.2 ≤ 0))
        else
          some false
      else
        some false
    else
      some false
  else
  bif decide (1 ≥ y1) then
    bif decide (2 ≥ y1) then
      bif d2.1 == 30 then
        bif decide (y1 ≥ 0) then
          bif (d2.1 == d2.1) && ((d2.2.1 == 0) && ((d2.2.2.1 == d2.2.2.1) && ((d2.2.2.2.1 == 0) && ((d2.2.2.2.2.1 == 0) && (d2.2.2.2.2.2 == d2.2.2.2.2.2))))) then
            bif decide (d2.2.2.2.2.2 ≥ 0) then
              some (decide (d2.2.2.2.2.2 ≤ (IntKind.i64.wrap (d1.2.2.1 - 1))))
            else
              some false
          else
            some false
        else
          some false
      else
      bif d2.1 == 21 then
        bif decide (y1 ≥ 0) then
          bif (d2.1 == d2.1) && ((d2.2.1 == d2.2.1) && ((d2.2.2.1 == d2.2.2.1) && ((d2.2.2.2.1 == 0) && ((d2.2.2.2.2.1 == 0) && (d2.2.2.2.2.2 == d2.2.2.2.2.2))))) then
            bif decide (d2.2.2.2.2.2 ≥ 0) then
              some (decide (d2.2.2.2.2.2 ≤ (IntKind.i64.wrap (d1.2.2.1 - 1))))
            else
              some false
          else
            some false
        else
          some false
      else
      bif d2.1 == 3 then
        bif decide (y1 ≥ 0) then
          bif (d2.1 == d2.1) && ((d2.2.1 == d2.2.1) && ((d2.2.2.1 == d2.2.2.1) && ((d2.2.2.2.1 == 0) && ((d2.2.2.2.2.1 == 0) && (d2.2.2.2.2.2 == d2.2.2.2.2.2))))) then
            bif decide (d2.2.2.2.2.2 ≥ 0) then
              some (decide (d2.2.2.2.2.2 ≤ (IntKind.i64.wrap ((((d1.2.2.2.2.length : Nat) : Int)) - 1))))
            else
              some false
          else
            some false
        else
          some false
      else
      bif d2.1 == 2 then
        bif decide (y1 ≥ 0) then
          bif (d2.1 == d2.1) && ((d2.2.1 == d2.2.1) && ((d2.2.2.1 == d2.2.2.1) && ((d2.2.2.2.1 == 0) && ((d2.2.2.2.2.1 == 0) && (d2.2.2.2.2.2 == d2.2.2.2.2.2))))) then
            bif decide (d2.2.2.2.2.2 ≥ 0) then
              some (decide (d2.2.2.2.2.2 ≤ 1))
            else
              some false
          else
            some false
        else
          some false
      else
      bif d2.1 == 1 then
        bif (d2.1 == d2.1) && ((d2.2.1 == d2.2.1) && ((d2.2.2.1 == d2.2.2.1) && ((d2.2.2.2.1 == 0) && ((d2.2.2.2.2.1 == 0) && (d2.2.2.2.2.2 == d2.2.2.2.2.2))))) then
          (c8 rf d2.2.2.2.2.2).bind fun (y6 : Bool) =>
          some y6
        else
          some false
      else
      bif decide (y1 ≥ 0) then
        bif (d2.1 == d2.1) && ((d2.2.1 == d2.2.1) && ((d2.2.2.1 == d2.2.2.1) && ((d2.2.2.2.1 == 0) && ((d2.2.2.2.2.1 == 0) && (d2.2.2.2.2.2 == 0))))) then
          bif decide (d2.2.2.2.2.2 ≥ 0) then
            some (decide (d2.2.2.2.2.2 ≤ 0))
          else
            some false
        else
          some false
      else
        some false
    else
    bif d2.1 == 30 then
      bif decide (y1 ≥ 0) then
        bif (d2.1 == d2.1) && ((d2.2.1 == 0) && ((d2.2.2.1 == d2.2.2.1) && ((d2.2.2.2.1 == 0) && ((d2.2.2.2.2.1 == d2.2.2.2.2.1) && (d2.2.2.2.2.2 == d2.2.2.2.2.2))))) then
          bif decide (d2.2.2.2.2.2 ≥ 0) then
            some (decide (d2.2.2.2.2.2 ≤ (IntKind.i64.wrap (d1.2.2.1 - 1))))
          else
            some false
        else
          some false
      else
        some false
    else
    bif d2.1 == 21 then
      bif decide (y1 ≥ 0) then
        bif (d2.1 == d2.1) && ((d2.2.1 == d2.2.1) && ((d2.2.2.1 == d2.2.2.1) && ((d2.2.2.2.1 == 0) && ((d2.2.2.2.2.1 == d2.2.2.2.2.1) && (d2.2.2.2.2.2 == d2.2.2.2.2.2))))) then
          bif decide (d2.2.2.2.2.2 ≥ 0) then
            some (decide (d2.2.2.2.2.2 ≤ (IntKind.i64.wrap (d1.2.2.1 - 1))))
          else
            some false
        else
          some false
      else
        some false
    else
    bif d2.1 == 3 then
      bif decide (y1 ≥ 0) then
        bif (d2.1 == d2.1) && ((d2.2.1 == d2.2.1) && ((d2.2.2.1 == d2.2.2.1) && ((d2.2.2.2.1 == 0) && ((d2.2.2.2.2.1 == d2.2.2.2.2.1) && (d2.2.2.2.2.2 == d2.2.2.2.2.2))))) then
          bif decide (d2.2.2.2.2.2 ≥ 0) then
            some (decide (d2.2.2.2.2.2 ≤ (IntKind.i64.wrap ((((d1.2.2.2.2.length : Nat) : Int)) - 1))))
          else
            some false
        else
          some false
      else
        some false
    else
    bif d2.1 == 2 then
      bif decide (y1 ≥ 0) then
        bif (d2.1 == d2.1) && ((d2.2.1 == d2.2.1) && ((d2.2.2.1 == d2.2.2.1) && ((d2.2.2.2.1 == 0) && ((d2.2.2.2.2.1 == d2.2.2.2.2.1) && (d2.2.2.2.2.2 == d2.2.2.2.2.2))))) then
          bif decide (d2.2.2.2.2.2 ≥ 0) then
            some (decide (d2.2.2.2.2.2 ≤ 1))
          else
            some false
        else
          some false
      else
        some false
    else
    bif d2.1 == 1 then
      bif (d2.1 == d2.1) && ((d2.2.1 == d2.2.1) && ((d2.2.2.1 == d2.2.2.1) && ((d2.2.2.2.1 == 0) && ((d2.2.2.2.2.1 == d2.2.2.2.2.1) && (d2.2.2.2.2.2 == d2.2.2.2.2.2))))) then
        (c8 rf d2.2.2.2.2.2).bind fun (y7 : Bool) =>
        some y7
      else
        some false
    else
    bif decide (y1 ≥ 0) then
      bif (d2.1 == d2.1) && ((d2.2.1 == d2.2.1) && ((d2.2.2.1 == d2.2.2.1) && ((d2.2.2.2.1 == 0) && ((d2.2.2.2.2.1 == d2.2.2.2.2.1) && (d2.2.2.2.2.2 == 0))))) then
        bif decide (d2.2.2.2.2.2 ≥ 0) then
          some (decide (d2.2.2.2.2.2 ≤ 0))
        else
          some false
      else
        some false
    else
      some false
  else
  bif decide (2 ≥ y1) then
    bif d2.1 == 30 then
      bif decide (y1 ≥ 0) then
        bif (d2.1 == d2.1) && ((d2.2.1 == 0) && ((d2.2.2.1 == d2.2.2.1) && ((d2.2.2.2.1 == d2.2.2.2.1) && ((d2.2.2.2.2.1 == 0) && (d2.2.2.2.2.2 == d2.2.2.2.2.2))))) then
          bif decide (d2.2.2.2.2.2 ≥ 0) then
            some (decide (d2.2.2.2.2.2 ≤ (IntKind.i64.wrap (d1.2.2.1 - 1))))
          else
            some false
        else
          some false
      else
        some false
    else
    bif d2.1 == 21 then
      bif decide (y1 ≥ 0) then
        bif (d2.1 == d2.1) && ((d2.2.1 == d2.2.1) && ((d2.2.2.1 == d2.2.2.1) && ((d2.2.2.2.1 == d2.2.2.2.1) && ((d2.2.2.2.2.1 == 0) && (d2.2.2.2.2.2 == d2.2.2.2.2.2))))) then
          bif decide (d2.2.2.2.2.2 ≥ 0) then
            some (decide (d2.2.2.2.2.2 ≤ (IntKind.i64.wrap (d1.2.2.1 - 1))))
          else
            some false
        else
          some false
      else
        some false
    else
    bif d2.1 == 3 then
      bif decide (y1 ≥ 0) then
        bif (d2.1 == d2.1) && ((d2.2.1 == d2.2.1) && ((d2.2.2.1 == d2.2.2.1) && ((d2.2.2.2.1 == d2.2.2.2.1) && ((d2.2.2.2.2.1 == 0) && (d2.2.2.2.2.2 == d2.2.2.2.2.2))))) then
          bif decide (d2.2.2.2.2.2 ≥ 0) then
            some (decide (d2.2.2.2.2.2 ≤ (IntKind.i64.wrap ((((d1.2.2.2.2.length : Nat) : Int)) - 1))))
          else
            some false
        else
          some false
      else
        some false
    else
    bif d2.1 == 2 then
      bif decide (y1 ≥ 0) then
        bif (d2.1 == d2.1) && ((d2.2.1 == d2.2.1) && ((d2.2.2.1 == d2.2.2.1) && ((d2.2.2.2.1 == d2.2.2.2.1) && ((d2.2.2.2.2.1 == 0) && (d2.2.2.2.2.2 == d2.2.2.2.2.2))))) then
          bif decide (d2.2.2.2.2.2 ≥ 0) then
            some (decide (d2.2.2.2.2.2 ≤ 1))
          else
            some false
        else
          some false
      else
        some false
    else
    bif d2.1 == 1 then
      bif (d2.1 == d2.1) && ((d2.2.1 == d2.2.1) && ((d2.2.2.1 == d2.2.2.1) && ((d2.2.2.2.1 == d2.2.2.2.1) && ((d2.2.2.2.2.1 == 0) && (d2.2.2.2.2.2 == d2.2.2.2.2.2))))) then
        (c8 rf d2.2.2.2.2.2).bind fun (y8 : Bool) =>
        some y8
      else
        some false
    else
    bif decide (y1 ≥ 0) then
      bif (d2.1 == d2.1) && ((d2.2.1 == d2.2.1) && ((d2.2.2.1 == d2.2.2.1) && ((d2.2.2.2.1 == d2.2.2.2.1) && ((d2.2.2.2.2.1 == 0) && (d2.2.2.2.2.2 == 0))))) then
        bif decide (d2.2.2.2.2.2 ≥ 0) then
          some (decide (d2.2.2.2.2.2 ≤ 0))
        else
          some false
      else
        some false
    else
      some false
  else
  bif d2.1 == 30 then
    bif decide (y1 ≥ 0) then
      bif (d2.1 == d2.1) && ((d2.2.1 == 0) && ((d2.2.2.1 == d2.2.2.1) && ((d2.2.2.2.1 == d2.2.2.2.1) && ((d2.2.2.2.2.1 == d2.2.2.2.2.1) && (d2.2.2.2.2.2 == d2.2.2.2.2.2))))) then
        bif decide (d2.2.2.2.2.2 ≥ 0) then
          some (decide (d2.2.2.2.2.2 ≤ (IntKind.i64.wrap (d1.2.2.1 - 1))))
        else
          some false
      else
        some false
    else
      some false
  else
  bif d2.1 == 21 then
    bif decide (y1 ≥ 0) then
      bif (d2.1 == d2.1) && ((d2.2.1 == d2.2.1) && ((d2.2.2.1 == d2.2.2.1) && ((d2.2.2.2.1 == d2.2.2.2.1) && ((d2.2.2.2.2.1 == d2.2.2.2.2.1) && (d2.2.2.2.2.2 == d2.2.2.2.2.2))))) then
        bif decide (d2.2.2.2.2.2 ≥ 0) then
          some (decide (d2.2.2.2.2.2 ≤ (IntKind.i64.wrap (d1.2.2.1 - 1))))
        else
          some false
      else
        some false
    else
      some false
  else
  bif d2.1 == 3 then
    bif decide (y1 ≥ 0) then
      bif (d2.1 == d2.1) && ((d2.2.1 == d2.2.1) && ((d2.2.2.1 == d2.2.2.1) && ((d2.2.2.2.1 == d2.2.2.2.1) && ((d2.2.2.2.2.1 == d2.2.2.2.2.1) && (d2.2.2.2.2.2 == d2.2.2.2.2.2))))) then
        bif decide (d2.2.2.2.2.2 ≥ 0) then
          some (decide (d2.2.2.2.2.2 ≤ (IntKind.i64.wrap ((((d1.2.2.2.2.length : Nat) : Int)) - 1))))
        else
          some false
      else
        some false
    else
      some false
  else
  bif d2.1 == 2 then
    bif decide (y1 ≥ 0) then
      bif (d2.1 == d2.1) && ((d2.2.1 == d2.2.1) && ((d2.2.2.1 == d2.2.2.1) && ((d2.2.2.2.1 == d2.2.2.2.1) && ((d2.2.2.2.2.1 == d2.2.2.2.2.1) && (d2.2.2.2.2.2 == d2.2.2.2.2.2))))) then
        bif decide (d2.2.2.2.2.2 ≥ 0) then
          some (decide (d2.2.2.2.2.2 ≤ 1))
        else
          some false
      else
        some false
    else
      some false
  else
  bif d2.1 == 1 then
    bif (d2.1 == d2.1) && ((d2.2.1 == d2.2.1) && ((d2.2.2.1 == d2.2.2.1) && ((d2.2.2.2.1 == d2.2.2.2.1) && ((d2.2.2.2.2.1 == d2.2.2.2.2.1) && (d2.2.2.2.2.2 == d2.2.2.2.2.2))))) then
      (c8 rf d2.2.2.2.2.2).bind fun (y9 : Bool) =>
      some y9
    else
      some false
  else
  bif decide (y1 ≥ 0) then
    bif (d2.1 == d2.1) && ((d2.2.1 == d2.2.1) && ((d2.2.2.1 == d2.2.2.1) && ((d2.2.2.2.1 == d2.2.2.2.1) && ((d2.2.2.2.2.1 == d2.2.2.2.2.1) && (d2.2.2.2.2.2 == 0))))) then
      bif decide (d2.2.2.2.2.2 ≥ 0) then
        some (decide (d2.2.2.2.2.2 ≤ 0))
      else
        some false
    else
      some false
  else
    some false
theorem er5 (rf : T.RF) (rb : T.RB) (d1 : XC) (d2 : XI) : T.stepF rf rb 5 (d1, d2) = r5 rf rb d1 d2 := by kernel_rfl
theorem or5 {d1 : XC} {d2 : XI} {y : Bool} (h : r5 T.rf T.rb d1 d2 = some y) : c5 T.rf d1 d2 = some y := T.rf_of (f := 5) (d := (d1, d2)) ((er5 T.rf T.rb d1 d2).trans h)

/- code.Check$1 -/
noncomputable def r11 (rf : T.RF) (rb : T.RB) (d1 : List (Int × Bool)) (d2 : Int) : Option (List (Int × Bool) × Bool) :=
  some (d1, !(assocGet (CT.eqK (.int .i64)) false d1 d2))
theorem er11 (rf : T.RF) (rb : T.RB) (d1 : List (Int × Bool)) (d2 : Int) : T.stepF rf rb 11 (d1, d2) = r11 rf rb d1 d2 := by kernel_rfl
theorem or11 {d1 : List (Int × Bool)} {d2 : Int} {y : (List (Int × Bool) × Bool)} (h : r11 T.rf T.rb d1 d2 = some y) : c11 T.rf d1 d2 = some y := T.rf_of (f := 11) (d := (d1, d2)) ((er11 T.rf T.rb d1 d2).trans h)

/- slices.IndexFunc[[]int,int] loop 0 -/
noncomputable def b2 (rf : T.RF) (rb : T.RB) (d1 : List (Int × Bool)) (d2 : List Int) (d3 : Int) (d4 : Int) : Option ((List (Int × Bool) × Int) ⊕ (List (Int × Bool))) :=
  bif decide (d4 < d3) then
    bif inb d4 d2.length then
      (nth d2 d4.toNat).bind fun (x1 : Int) =>
      (c11 rf d1 x1).bind fun (y2 : List (Int × Bool) × Bool) =>
      bif y2.2 then
        some (.inl (y2.1, d4))
      else
        k2 rb y2.1 d2 d3 (IntKind.i64.wrap (d4 + 1))
    else
      none
  else
    some (.inr d1)
theorem eb2 (rf : T.RF) (rb : T.RB) (d1 : List (Int × Bool)) (d2 : List Int) (d3 : Int) (d4 : Int) : T.stepB rf rb 2 (d1, d2, d3, d4) = b2 rf rb d1 d2 d3 d4 := by kernel_rfl
theorem ob2 {d1 : List (Int × Bool)} {d2 : List Int} {d3 : Int} {d4 : Int} {y : ((List (Int × Bool) × Int) ⊕ (List (Int × Bool)))} (h : b2 T.rf T.rb d1 d2 d3 d4 = some y) : k2 T.rb d1 d2 d3 d4 = some y := T.rb_of (κ := 2) (d := (d1, d2, d3, d4)) ((eb2 T.rf T.rb d1 d2 d3 d4).trans h)

/- slices.IndexFunc[[]int,int] -/
noncomputable def r10 (rf : T.RF) (rb : T.RB) (d1 : List (Int × Bool)) (d2 : List Int) : Option (List (Int × Bool) × Int) :=
  (k2 rb d1 d2 (((d2.length : Nat) : Int)) 0).bind fun (z1 : (List (Int × Bool) × Int) ⊕ (List (Int × Bool))) =>
  match z1 with
  | .inl u2 =>
    some u2
  | .inr w3 =>
    some (w3, (-1))
theorem er10 (rf : T.RF) (rb : T.RB) (d1 : List (Int × Bool)) (d2 : List Int) : T.stepF rf rb 10 (d1, d2) = r10 rf rb d1 d2 := by kernel_rfl
theorem or10 {d1 : List (Int × Bool)} {d2 : List Int} {y : (List (Int × Bool) × Int)} (h : r10 T.rf T.rb d1 d2 = some y) : c10 T.rf d1 d2 = some y := T.rf_of (f := 10) (d := (d1, d2)) ((er10 T.rf T.rb d1 d2).trans h)

/- slices.ContainsFunc[[]int,int] -/
noncomputable def r9 (rf : T.RF) (rb : T.RB) (d1 : List (Int × Bool)) (d2 : List Int) : Option (List (Int × Bool) × Bool) :=
  (c10 rf d1 d2).bind fun (y1 : List (Int × Bool) × Int) =>
  some (y1.1, decide (y1.2 ≥ 0))
theorem er9 (rf : T.RF) (rb : T.RB) (d1 : List (Int × Bool)) (d2 : List Int) : T.stepF rf rb 9 (d1, d2) = r9 rf rb d1 d2 := by kernel_rfl
theorem or9 {d1 : List (Int × Bool)} {d2 : List Int} {y : (List (Int × Bool) × Bool)} (h : r9 T.rf T.rb d1 d2 = some y) : c9 T.rf d1 d2 = some y := T.rf_of (f := 9) (d := (d1, d2)) ((er9 T.rf T.rb d1 d2).trans h)

/- code.Check loop 0 -/
noncomputable def b0q (rf : T.RF) (rb : T.RB) (d1 : XC) (d2 : List (Int × Bool)) (d3 : List (Int × Bool)) (d4 : List XI) (d5 : Int) (d6 : Int) : Option ((XC × List (Int × Bool) × List (Int × Bool) × Int) ⊕ (XC × List (Int × Bool) × List (Int × Bool))) :=
  bif decide (d6 < d5) then
    bif inb d6 d4.length then
      (nth d4 d6.toNat).bind fun (x1 : XI) =>
      (c5 rf d1 x1).bind fun (y2 : Bool) =>
      bif !y2 then
        some (.inl (d1, d2, d3, 1))
      else
        agN 1 (
          (c6 rf x1.1).bind fun (y3 : Int) =>
          bif inb' y3 3 then
            (k1 rb (sub [x1.2.2.1, x1.2.2.2.1, x1.2.2.2.2.1] (some (0, (y3.toNat - 0)))) d3 ((((y3.toNat - 0) : Nat) : Int)) 0).bind fun (z4 : (List Int × List (Int × Bool) × Int) ⊕ (List Int × List (Int × Bool))) =>
            match z4 with
            | .inl u5 =>
              some (.inl (d1, d2, u5.2))
            | .inr w6 =>
              bif x1.1 == 30 then
                bif assocGet (CT.eqK (.int .i64)) false d2 x1.2.2.2.2.2 then
                  some (.inl (d1, d2, w6.2, 1))
                else
                  k0 rb d1 (assocSet (CT.eqK (.int .i64)) d2 x1.2.2.2.2.2 true) w6.2 d4 d5 (IntKind.i64.wrap (d6 + 1))
              else
              bif decide (x1.2.1 < 0) then
                some (.inl (d1, d2, w6.2, 1))
              else
              bif decide (x1.2.1 ≥ d1.2.1) then
                some (.inl (d1, d2, w6.2, 1))
              else
              bif x1.1 == 21 then
                bif decide ((((d2.length : Nat) : Int)) > 0) then
                  some (.inl (d1, d2, w6.2, 1))
                else
                  k0 rb d1 d2 (assocSet (CT.eqK (.int .i64)) w6.2 x1.2.1 true) d4 d5 (IntKind.i64.wrap (d6 + 1))
              else
                k0 rb d1 d2 (assocSet (CT.eqK (.int .i64)) w6.2 x1.2.1 true) d4 d5 (IntKind.i64.wrap (d6 + 1))
          else
            none
        )
    else
      none
  else
    some (.inr (d1, d2, d3))
noncomputable def b0 (rf : T.RF) (rb : T.RB) (d1 : XC) (d2 : List (Int × Bool)) (d3 : List (Int × Bool)) (d4 : List XI) (d5 : Int) (d6 : Int) : Option ((XC × List (Int × Bool) × List (Int × Bool) × Int) ⊕ (XC × List (Int × Bool) × List (Int × Bool))) :=
  bif decide (d6 < d5) then
    bif inb d6 d4.length then
      (nth d4 d6.toNat).bind fun (x1 : XI) =>
      (c5 rf d1 x1).bind fun (y2 : Bool) =>
      bif !y2 then
        some (.inl (d1, d2, d3, 1))
      else
        (c6 rf x1.1).bind fun (y3 : Int) =>
        bif inb' y3 3 then
          (k1 rb (sub [x1.2.2.1, x1.2.2.2.1, x1.2.2.2.2.1] (some (0, (y3.toNat - 0)))) d3 ((((y3.toNat - 0) : Nat) : Int)) 0).bind fun (z4 : (List Int × List (Int × Bool) × Int) ⊕ (List Int × List (Int × Bool))) =>
          match z4 with
          | .inl u5 =>
            some (.inl (d1, d2, u5.2))
          | .inr w6 =>
            bif x1.1 == 30 then
              bif assocGet (CT.eqK (.int .i64)) false d2 x1.2.2.2.2.2 then
                some (.inl (d1, d2, w6.2, 1))
              else
                k0 rb d1 (assocSet (CT.eqK (.int .i64)) d2 x1.2.2.2.2.2 true) w6.2 d4 d5 (IntKind.i64.wrap (d6 + 1))
            else
            bif decide (x1.2.1 < 0) then
              some (.inl (d1, d2, w6.2, 1))
            else
            bif decide (x1.2.1 ≥ d1.2.1) then
              some (.inl (d1, d2, w6.2, 1))
            else
            bif x1.1 == 21 then
              bif decide ((((d2.length : Nat) : Int)) > 0) then
                some (.inl (d1, d2, w6.2, 1))
              else
                k0 rb d1 d2 (assocSet (CT.eqK (.int .i64)) w6.2 x1.2.1 true) d4 d5 (IntKind.i64.wrap (d6 + 1))
            else
              k0 rb d1 d2 (assocSet (CT.eqK (.int .i64)) w6.2 x1.2.1 true) d4 d5 (IntKind.i64.wrap (d6 + 1))
        else
          none
    else
      none
  else
    some (.inr (d1, d2, d3))
theorem eb0 (rf : T.RF) (rb : T.RB) (d1 : XC) (d2 : List (Int × Bool)) (d3 : List (Int × Bool)) (d4 : List XI) (d5 : Int) (d6 : Int) : T.stepB rf rb 0 (d1, d2, d3, d4, d5, d6) = b0q rf rb d1 d2 d3 d4 d5 d6 := by kernel_rfl
theorem sb0 (rf : T.RF) (rb : T.RB) (d1 : XC) (d2 : List (Int × Bool)) (d3 : List (Int × Bool)) (d4 : List XI) (d5 : Int) (d6 : Int) : b0q rf rb d1 d2 d3 d4 d5 d6 = b0 rf rb d1 d2 d3 d4 d5 d6 := by
  unfold b0q b0; simp only [agN_eq, agree_self, agree_swap]
theorem ob0 {d1 : XC} {d2 : List (Int × Bool)} {d3 : List (Int × Bool)} {d4 : List XI} {d5 : Int} {d6 : Int} {y : ((XC × List (Int × Bool) × List (Int × Bool) × Int) ⊕ (XC × List (Int × Bool) × List (Int × Bool)))} (h : b0 T.rf T.rb d1 d2 d3 d4 d5 d6 = some y) : k0 T.rb d1 d2 d3 d4 d5 d6 = some y := T.rb_of (κ := 0) (d := (d1, d2, d3, d4, d5, d6)) (((eb0 T.rf T.rb d1 d2 d3 d4 d5 d6).trans (sb0 T.rf T.rb d1 d2 d3 d4 d5 d6)).trans h)

/- code.Check loop 2 -/
noncomputable def b1 (rf : T.RF) (rb : T.RB) (d1 : List Int) (d2 : List (Int × Bool)) (d3 : Int) (d4 : Int) : Option ((List Int × List (Int × Bool) × Int) ⊕ (List Int × List (Int × Bool))) :=
  bif decide (d4 < d3) then
    bif inb d4 d1.length then
      (nth d1 d4.toNat).bind fun (x1 : Int) =>
      bif !(assocGet (CT.eqK (.int .i64)) false d2 x1) then
        some (.inl (d1, d2, 1))
      else
        k1 rb d1 d2 d3 (IntKind.i64.wrap (d4 + 1))
    else
      none
  else
    some (.inr (d1, d2))
theorem eb1 (rf : T.RF) (rb : T.RB) (d1 : List Int) (d2 : List (Int × Bool)) (d3 : Int) (d4 : Int) : T.stepB rf rb 1 (d1, d2, d3, d4) = b1 rf rb d1 d2 d3 d4 := by kernel_rfl
theorem ob1 {d1 : List Int} {d2 : List (Int × Bool)} {d3 : Int} {d4 : Int} {y : ((List Int × List (Int × Bool) × Int) ⊕ (List Int × List (Int × Bool)))} (h : b1 T.rf T.rb d1 d2 d3 d4 = some y) : k1 T.rb d1 d2 d3 d4 = some y := T.rb_of (κ := 1) (d := (d1, d2, d3, d4)) ((eb1 T.rf T.rb d1 d2 d3 d4).trans h)

/- code.Check -/
noncomputable def r4 (rf : T.RF) (rb : T.RB) (d1 : XC) : Option Int :=
  bif decide (d1.2.1 < 0) then
    some 1
  else
  bif decide (d1.2.1 > 100000) then
    some 1
  else
  bif decide (d1.2.2.1 < 0) then
    some 1
  else
  bif decide (d1.2.2.1 > 100000) then
    some 1
  else
  bif decide ((((d1.1.length : Nat) : Int)) > 200000) then
    some 1
  else
    (k0 rb d1 [] [] d1.1 (((d1.1.length : Nat) : Int)) 0).bind fun (z1 : (XC × List (Int × Bool) × List (Int × Bool) × Int) ⊕ (XC × List (Int × Bool) × List (Int × Bool))) =>
    match z1 with
    | .inl u2 =>
      some u2.2.2.2
    | .inr w3 =>
      (c9 rf w3.2.2 w3.1.2.2.2.1).bind fun (y4 : List (Int × Bool) × Bool) =>
      bif y4.2 then
        some 1
      else
        some 0
theorem er4 (rf : T.RF) (rb : T.RB) (d1 : XC) : T.stepF rf rb 4 d1 = r4 rf rb d1 := by kernel_rfl
theorem or4 {d1 : XC} {y : Int} (h : r4 T.rf T.rb d1 = some y) : c4 T.rf d1 = some y := T.rf_of (f := 4) (d := d1) ((er4 T.rf T.rb d1).trans h)

/- (*bailment/image.bytes).put loop 0 -/
noncomputable def b8 (rf : T.RF) (rb : T.RB) (d1 : List Int) (d2 : List Int) (d3 : Int) (d4 : Int) : Option (List Int) :=
  bif decide (d4 < d3) then
    bif inb d4 d2.length then
      (nth d2 d4.toNat).bind fun (x1 : Int) =>
      (k9 rb d1 x1).bind fun (z2 : List Int × Int) =>
      bif (Nat.ble (z2.1.length + 1) most) && true then
        k8 rb (z2.1 ++ [IntKind.u8.wrap z2.2]) d2 d3 (IntKind.i64.wrap (d4 + 1))
      else
        none
    else
      none
  else
    some d1
theorem eb8 (rf : T.RF) (rb : T.RB) (d1 : List Int) (d2 : List Int) (d3 : Int) (d4 : Int) : T.stepB rf rb 8 (d1, d2, d3, d4) = b8 rf rb d1 d2 d3 d4 := by kernel_rfl
theorem ob8 {d1 : List Int} {d2 : List Int} {d3 : Int} {d4 : Int} {y : (List Int)} (h : b8 T.rf T.rb d1 d2 d3 d4 = some y) : k8 T.rb d1 d2 d3 d4 = some y := T.rb_of (κ := 8) (d := (d1, d2, d3, d4)) ((eb8 T.rf T.rb d1 d2 d3 d4).trans h)

/- (*bailment/image.bytes).put loop 2 -/
noncomputable def b9 (rf : T.RF) (rb : T.RB) (d1 : List Int) (d2 : Int) : Option (List Int × Int) :=
  bif decide (d2 ≥ 128) then
    bif (Nat.ble (d1.length + 1) most) && true then
      k9 rb (d1 ++ [orI IntKind.u8 (IntKind.u8.wrap d2) 128]) (shrI IntKind.i64 d2 7)
    else
      none
  else
    some (d1, d2)
theorem eb9 (rf : T.RF) (rb : T.RB) (d1 : List Int) (d2 : Int) : T.stepB rf rb 9 (d1, d2) = b9 rf rb d1 d2 := by kernel_rfl
theorem ob9 {d1 : List Int} {d2 : Int} {y : (List Int × Int)} (h : b9 T.rf T.rb d1 d2 = some y) : k9 T.rb d1 d2 = some y := T.rb_of (κ := 9) (d := (d1, d2)) ((eb9 T.rf T.rb d1 d2).trans h)

/- (*bailment/image.bytes).put -/
noncomputable def r12 (rf : T.RF) (rb : T.RB) (d1 : List Int) (d2 : List Int) : Option (List Int) :=
  (k8 rb d1 d2 (((d2.length : Nat) : Int)) 0).bind fun (z1 : List Int) =>
  some z1
theorem er12 (rf : T.RF) (rb : T.RB) (d1 : List Int) (d2 : List Int) : T.stepF rf rb 12 (d1, d2) = r12 rf rb d1 d2 := by kernel_rfl
theorem or12 {d1 : List Int} {d2 : List Int} {y : (List Int)} (h : r12 T.rf T.rb d1 d2 = some y) : c12 T.rf d1 d2 = some y := T.rf_of (f := 12) (d := (d1, d2)) ((er12 T.rf T.rb d1 d2).trans h)

/- image.shape -/
noncomputable def r13 (rf : T.RF) (rb : T.RB) (d1 : XI) : Option ((XI × Bool) ⊕ (XI × Bool) ⊕ (XI × Bool) ⊕ (XI × Bool) ⊕ (XI × Bool) ⊕ (XI × Bool) ⊕ (XI × Bool) ⊕ (XI × Bool) ⊕ (XI × Bool)) :=
  bif d1.1 == 30 then
    some (.inl (d1, true))
  else
  bif d1.1 == 3 then
    bif d1.1 == 3 then
      some (.inr (.inl (d1, true)))
    else
    bif d1.1 == 19 then
      some (.inr (.inr (.inl (d1, false))))
    else
      (c7 rf d1.1).bind fun (y1 : Int) =>
      bif decide (y1 < 0) then
        some (.inr (.inr (.inr (.inl (d1, false)))))
      else
      bif inb' (IntKind.i64.wrap (1 + y1)) 4 then
        bif Nat.beq (IntKind.i64.wrap (1 + y1)).toNat 4 then
          some (.inr (.inr (.inr (.inr (.inl (d1, false))))))
        else
        bif Nat.beq (IntKind.i64.wrap (1 + y1)).toNat 3 then
          some (.inr (.inr (.inr (.inr (.inr (.inl (d1, false)))))))
        else
        bif Nat.beq (IntKind.i64.wrap (1 + y1)).toNat 2 then
          some (.inr (.inr (.inr (.inr (.inr (.inr (.inl (d1, false))))))))
        else
        bif Nat.beq (IntKind.i64.wrap (1 + y1)).toNat 1 then
          some (.inr (.inr (.inr (.inr (.inr (.inr (.inr (.inl (d1, false)))))))))
        else
        bif Nat.beq (IntKind.i64.wrap (1 + y1)).toNat 0 then
          some (.inr (.inr (.inr (.inr (.inr (.inr (.inr (.inr (d1, false)))))))))
        else
          none
      else
        none
  else
  bif d1.1 == 1 then
    bif d1.1 == 1 then
      some (.inr (.inl (d1, true)))
    else
    bif d1.1 == 19 then
      some (.inr (.inr (.inl (d1, false))))
    else
      (c7 rf d1.1).bind fun (y2 : Int) =>
      bif decide (y2 < 0) then
        some (.inr (.inr (.inr (.inl (d1, false)))))
      else
      bif inb' (IntKind.i64.wrap (1 + y2)) 4 then
        bif Nat.beq (IntKind.i64.wrap (1 + y2)).toNat 4 then
          some (.inr (.inr (.inr (.inr (.inl (d1, false))))))
        else
        bif Nat.beq (IntKind.i64.wrap (1 + y2)).toNat 3 then
          some (.inr (.inr (.inr (.inr (.inr (.inl (d1, false)))))))
        else
        bif Nat.beq (IntKind.i64.wrap (1 + y2)).toNat 2 then
          some (.inr (.inr (.inr (.inr (.inr (.inr (.inl (d1, false))))))))
        else
        bif Nat.beq (IntKind.i64.wrap (1 + y2)).toNat 1 then
          some (.inr (.inr (.inr (.inr (.inr (.inr (.inr (.inl (d1, false)))))))))
        else
        bif Nat.beq (IntKind.i64.wrap (1 + y2)).toNat 0 then
          some (.inr (.inr (.inr (.inr (.inr (.inr (.inr (.inr (d1, false)))))))))
        else
          none
      else
        none
  else
  bif d1.1 == 2 then
    bif d1.1 == 2 then
      some (.inr (.inl (d1, true)))
    else
    bif d1.1 == 19 then
      some (.inr (.inr (.inl (d1, false))))
    else
      (c7 rf d1.1).bind fun (y3 : Int) =>
      bif decide (y3 < 0) then
        some (.inr (.inr (.inr (.inl (d1, false)))))
      else
      bif inb' (IntKind.i64.wrap (1 + y3)) 4 then
        bif Nat.beq (IntKind.i64.wrap (1 + y3)).toNat 4 then
          some (.inr (.inr (.inr (.inr (.inl (d1, false))))))
        else
        bif Nat.beq (IntKind.i64.wrap (1 + y3)).toNat 3 then
          some (.inr (.inr (.inr (.inr (.inr (.inl (d1, false)))))))
        else
        bif Nat.beq (IntKind.i64.wrap (1 + y3)).toNat 2 then
          some (.inr (.inr (.inr (.inr (.inr (.inr (.inl (d1, false))))))))
        else
        bif Nat.beq (IntKind.i64.wrap (1 + y3)).toNat 1 then
          some (.inr (.inr (.inr (.inr (.inr (.inr (.inr (.inl (d1, false)))))))))
        else
        bif Nat.beq (IntKind.i64.wrap (1 + y3)).toNat 0 then
          some (.inr (.inr (.inr (.inr (.inr (.inr (.inr (.inr (d1, false)))))))))
        else
          none
      else
        none
  else
  bif d1.1 == 21 then
    some (.inr (.inl (d1, true)))
  else
  bif d1.1 == 19 then
    some (.inr (.inr (.inl (d1, false))))
  else
    (c7 rf d1.1).bind fun (y4 : Int) =>
    bif decide (y4 < 0) then
      some (.inr (.inr (.inr (.inl (d1, false)))))
    else
    bif inb' (IntKind.i64.wrap (1 + y4)) 4 then
      bif Nat.beq (IntKind.i64.wrap (1 + y4)).toNat 4 then
        some (.inr (.inr (.inr (.inr (.inl (d1, false))))))
      else
      bif Nat.beq (IntKind.i64.wrap (1 + y4)).toNat 3 then
        some (.inr (.inr (.inr (.inr (.inr (.inl (d1, false)))))))
      else
      bif Nat.beq (IntKind.i64.wrap (1 + y4)).toNat 2 then
        some (.inr (.inr (.inr (.inr (.inr (.inr (.inl (d1, false))))))))
      else
      bif Nat.beq (IntKind.i64.wrap (1 + y4)).toNat 1 then
        some (.inr (.inr (.inr (.inr (.inr (.inr (.inr (.inl (d1, false)))))))))
      else
      bif Nat.beq (IntKind.i64.wrap (1 + y4)).toNat 0 then
        some (.inr (.inr (.inr (.inr (.inr (.inr (.inr (.inr (d1, false)))))))))
      else
        none
    else
      none
theorem er13 (rf : T.RF) (rb : T.RB) (d1 : XI) : T.stepF rf rb 13 d1 = r13 rf rb d1 := by kernel_rfl
theorem or13 {d1 : XI} {y : ((XI × Bool) ⊕ (XI × Bool) ⊕ (XI × Bool) ⊕ (XI × Bool) ⊕ (XI × Bool) ⊕ (XI × Bool) ⊕ (XI × Bool) ⊕ (XI × Bool) ⊕ (XI × Bool))} (h : r13 T.rf T.rb d1 = some y) : c13 T.rf d1 = some y := T.rf_of (f := 13) (d := d1) ((er13 T.rf T.rb d1).trans h)

/- image.Encode loop 0 -/
noncomputable def b11 (rf : T.RF) (rb : T.RB) (d1 : List Int) (d2 : Int) (d3 : Int) : Option ((List UInt8 × Int) ⊕ Unit) :=
  bif decide (d3 < d2) then
    bif inb d3 d1.length then
      (nth d1 d3.toNat).bind fun (x1 : Int) =>
      bif decide (x1 < 0) then
        some (.inl (([] : List UInt8), 1))
      else
      bif decide (x1 > 4294967295) then
        some (.inl (([] : List UInt8), 1))
      else
        k11 rb d1 d2 (IntKind.i64.wrap (d3 + 1))
    else
      none
  else
    some (.inr ())
theorem eb11 (rf : T.RF) (rb : T.RB) (d1 : List Int) (d2 : Int) (d3 : Int) : T.stepB rf rb 11 (d1, d2, d3) = b11 rf rb d1 d2 d3 := by kernel_rfl
theorem ob11 {d1 : List Int} {d2 : Int} {d3 : Int} {y : ((List UInt8 × Int) ⊕ Unit)} (h : b11 T.rf T.rb d1 d2 d3 = some y) : k11 T.rb d1 d2 d3 = some y := T.rb_of (κ := 11) (d := (d1, d2, d3)) ((eb11 T.rf T.rb d1 d2 d3).trans h)

/- image.Encode loop 2 -/
noncomputable def b12 (rf : T.RF) (rb : T.RB) (d1 : List Int) (d2 : List XI) (d3 : Int) (d4 : Int) : Option (List Int) :=
  bif decide (d4 < d3) then
    bif inb d4 d2.length then
      (nth d2 d4.toNat).bind fun (x1 : XI) =>
      (c12 rf d1 [x1.1]).bind fun (y2 : List Int) =>
      (c13 rf x1).bind fun (y3 : (XI × Bool) ⊕ (XI × Bool) ⊕ (XI × Bool) ⊕ (XI × Bool) ⊕ (XI × Bool) ⊕ (XI × Bool) ⊕ (XI × Bool) ⊕ (XI × Bool) ⊕ (XI × Bool)) =>
      match y3 with
      | .inl u4 =>
        (c12 rf y2 [u4.1.2.2.1]).bind fun (y6 : List Int) =>
        bif u4.2 then
          bif decide (u4.1.2.2.2.2.2 < 0) then
            (c12 rf y6 [IntKind.i64.wrap ((IntKind.i64.wrap ((-2) * u4.1.2.2.2.2.2)) - 1)]).bind fun (y7 : List Int) =>
            k12 rb y7 d2 d3 (IntKind.i64.wrap (d4 + 1))
          else
          bif u4.2 then
            (c12 rf y6 [IntKind.i64.wrap (2 * u4.1.2.2.2.2.2)]).bind fun (y8 : List Int) =>
            k12 rb y8 d2 d3 (IntKind.i64.wrap (d4 + 1))
          else
            k12 rb y6 d2 d3 (IntKind.i64.wrap (d4 + 1))
        else
        bif u4.2 then
          (c12 rf y6 [IntKind.i64.wrap (2 * u4.1.2.2.2.2.2)]).bind fun (y9 : List Int) =>
          k12 rb y9 d2 d3 (IntKind.i64.wrap (d4 + 1))
        else
          k12 rb y6 d2 d3 (IntKind.i64.wrap (d4 + 1))
      | .inr w5 =>
        match w5 with
        | .inl u10 =>
          (c12 rf y2 [u10.1.2.1]).bind fun (y12 : List Int) =>
          bif u10.2 then
            bif decide (u10.1.2.2.2.2.2 < 0) then
              (c12 rf y12 [IntKind.i64.wrap ((IntKind.i64.wrap ((-2) * u10.1.2.2.2.2.2)) - 1)]).bind fun (y13 : List Int) =>
              k12 rb y13 d2 d3 (IntKind.i64.wrap (d4 + 1))
            else
            bif u10.2 then
              (c12 rf y12 [IntKind.i64.wrap (2 * u10.1.2.2.2.2.2)]).bind fun (y14 : List Int) =>
              k12 rb y14 d2 d3 (IntKind.i64.wrap (d4 + 1))
            else
              k12 rb y12 d2 d3 (IntKind.i64.wrap (d4 + 1))
          else
          bif u10.2 then
            (c12 rf y12 [IntKind.i64.wrap (2 * u10.1.2.2.2.2.2)]).bind fun (y15 : List Int) =>
            k12 rb y15 d2 d3 (IntKind.i64.wrap (d4 + 1))
          else
            k12 rb y12 d2 d3 (IntKind.i64.wrap (d4 + 1))
        | .inr w11 =>
          match w11 with
          | .inl u16 =>
            (c12 rf y2 [u16.1.2.1]).bind fun (y18 : List Int) =>
            (c12 rf y18 [u16.1.2.2.1]).bind fun (y19 : List Int) =>
            (c12 rf y19 [u16.1.2.2.2.1]).bind fun (y20 : List Int) =>
            bif u16.2 then
              bif decide (u16.1.2.2.2.2.2 < 0) then
                (c12 rf y20 [IntKind.i64.wrap ((IntKind.i64.wrap ((-2) * u16.1.2.2.2.2.2)) - 1)]).bind fun (y21 : List Int) =>
                k12 rb y21 d2 d3 (IntKind.i64.wrap (d4 + 1))
              else
              bif u16.2 then
                (c12 rf y20 [IntKind.i64.wrap (2 * u16.1.2.2.2.2.2)]).bind fun (y22 : List Int) =>
                k12 rb y22 d2 d3 (IntKind.i64.wrap (d4 + 1))
              else
                k12 rb y20 d2 d3 (IntKind.i64.wrap (d4 + 1))
            else
            bif u16.2 then
              (c12 rf y20 [IntKind.i64.wrap (2 * u16.1.2.2.2.2.2)]).bind fun (y23 : List Int) =>
              k12 rb y23 d2 d3 (IntKind.i64.wrap (d4 + 1))
            else
              k12 rb y20 d2 d3 (IntKind.i64.wrap (d4 + 1))
          | .inr w17 =>
            match w17 with
            | .inl u24 =>
              bif u24.2 then
                bif decide (u24.1.2.2.2.2.2 < 0) then
                  (c12 rf y2 [IntKind.i64.wrap ((IntKind.i64.wrap ((-2) * u24.1.2.2.2.2.2)) - 1)]).bind fun (y26 : List Int) =>
                  k12 rb y26 d2 d3 (IntKind.i64.wrap (d4 + 1))
                else
                bif u24.2 then
                  (c12 rf y2 [IntKind.i64.wrap (2 * u24.1.2.2.2.2.2)]).bind fun (y27 : List Int) =>
                  k12 rb y27 d2 d3 (IntKind.i64.wrap (d4 + 1))
                else
                  k12 rb y2 d2 d3 (IntKind.i64.wrap (d4 + 1))
              else
              bif u24.2 then
                (c12 rf y2 [IntKind.i64.wrap (2 * u24.1.2.2.2.2.2)]).bind fun (y28 : List Int) =>
                k12 rb y28 d2 d3 (IntKind.i64.wrap (d4 + 1))
              else
                k12 rb y2 d2 d3 (IntKind.i64.wrap (d4 + 1))
            | .inr w25 =>
              match w25 with
              | .inl u29 =>
                (c12 rf y2 [u29.1.2.1]).bind fun (y31 : List Int) =>
                (c12 rf y31 [u29.1.2.2.1]).bind fun (y32 : List Int) =>
                (c12 rf y32 [u29.1.2.2.2.1]).bind fun (y33 : List Int) =>
                (c12 rf y33 [u29.1.2.2.2.2.1]).bind fun (y34 : List Int) =>
                bif u29.2 then
                  bif decide (u29.1.2.2.2.2.2 < 0) then
                    (c12 rf y34 [IntKind.i64.wrap ((IntKind.i64.wrap ((-2) * u29.1.2.2.2.2.2)) - 1)]).bind fun (y35 : List Int) =>
                    k12 rb y35 d2 d3 (IntKind.i64.wrap (d4 + 1))
                  else
                  bif u29.2 then
                    (c12 rf y34 [IntKind.i64.wrap (2 * u29.1.2.2.2.2.2)]).bind fun (y36 : List Int) =>
                    k12 rb y36 d2 d3 (IntKind.i64.wrap (d4 + 1))
                  else
                    k12 rb y34 d2 d3 (IntKind.i64.wrap (d4 + 1))
                else
                bif u29.2 then
                  (c12 rf y34 [IntKind.i64.wrap (2 * u29.1.2.2.2.2.2)]).bind fun (y37 : List Int) =>
                  k12 rb y37 d2 d3 (IntKind.i64.wrap (d4 + 1))
                else
                  k12 rb y34 d2 d3 (IntKind.i64.wrap (d4 + 1))
              | .inr w30 =>
                match w30 with
                | .inl u38 =>
                  (c12 rf y2 [u38.1.2.1]).bind fun (y40 : List Int) =>
                  (c12 rf y40 [u38.1.2.2.1]).bind fun (y41 : List Int) =>
                  (c12 rf y41 [u38.1.2.2.2.1]).bind fun (y42 : List Int) =>
                  bif u38.2 then
                    bif decide (u38.1.2.2.2.2.2 < 0) then
                      (c12 rf y42 [IntKind.i64.wrap ((IntKind.i64.wrap ((-2) * u38.1.2.2.2.2.2)) - 1)]).bind fun (y43 : List Int) =>
                      k12 rb y43 d2 d3 (IntKind.i64.wrap (d4 + 1))
                    else
                    bif u38.2 then
                      (c12 rf y42 [IntKind.i64.wrap (2 * u38.1.2.2.2.2.2)]).bind fun (y44 : List Int) =>
                      k12 rb y44 d2 d3 (IntKind.i64.wrap (d4 + 1))
                    else
                      k12 rb y42 d2 d3 (IntKind.i64.wrap (d4 + 1))
                  else
                  bif u38.2 then
                    (c12 rf y42 [IntKind.i64.wrap (2 * u38.1.2.2.2.2.2)]).bind fun (y45 : List Int) =>
                    k12 rb y45 d2 d3 (IntKind.i64.wrap (d4 + 1))
                  else
                    k12 rb y42 d2 d3 (IntKind.i64.wrap (d4 + 1))
                | .inr w39 =>
                  match w39 with
                  | .inl u46 =>
                    (c12 rf y2 [u46.1.2.1]).bind fun (y48 : List Int) =>
                    (c12 rf y48 [u46.1.2.2.1]).bind fun (y49 : List Int) =>
                    bif u46.2 then
                      bif decide (u46.1.2.2.2.2.2 < 0) then
                        (c12 rf y49 [IntKind.i64.wrap ((IntKind.i64.wrap ((-2) * u46.1.2.2.2.2.2)) - 1)]).bind fun (y50 : List Int) =>
                        k12 rb y50 d2 d3 (IntKind.i64.wrap (d4 + 1))
                      else
                      bif u46.2 then
                        (c12 rf y49 [IntKind.i64.wrap (2 * u46.1.2.2.2.2.2)]).bind fun (y51 : List Int) =>
                        k12 rb y51 d2 d3 (IntKind.i64.wrap (d4 + 1))
                      else
                        k12 rb y49 d2 d3 (IntKind.i64.wrap (d4 + 1))
                    else
                    bif u46.2 then
                      (c12 rf y49 [IntKind.i64.wrap (2 * u46.1.2.2.2.2.2)]).bind fun (y52 : List Int) =>
                      k12 rb y52 d2 d3 (IntKind.i64.wrap (d4 + 1))
                    else
                      k12 rb y49 d2 d3 (IntKind.i64.wrap (d4 + 1))
                  | .inr w47 =>
                    match w47 with
                    | .inl u53 =>
                      (c12 rf y2 [u53.1.2.1]).bind fun (y55 : List Int) =>
                      bif u53.2 then
                        bif decide (u53.1.2.2.2.2.2 < 0) then
                          (c12 rf y55 [IntKind.i64.wrap ((IntKind.i64.wrap ((-2) * u53.1.2.2.2.2.2)) - 1)]).bind fun (y56 : List Int) =>
                          k12 rb y56 d2 d3 (IntKind.i64.wrap (d4 + 1))
                        else
                        bif u53.2 then
                          (c12 rf y55 [IntKind.i64.wrap (2 * u53.1.2.2.2.2.2)]).bind fun (y57 : List Int) =>
                          k12 rb y57 d2 d3 (IntKind.i64.wrap (d4 + 1))
                        else
                          k12 rb y55 d2 d3 (IntKind.i64.wrap (d4 + 1))
                      else
                      bif u53.2 then
                        (c12 rf y55 [IntKind.i64.wrap (2 * u53.1.2.2.2.2.2)]).bind fun (y58 : List Int) =>
                        k12 rb y58 d2 d3 (IntKind.i64.wrap (d4 + 1))
                      else
                        k12 rb y55 d2 d3 (IntKind.i64.wrap (d4 + 1))
                    | .inr w54 =>
                      bif w54.2 then
                        bif decide (w54.1.2.2.2.2.2 < 0) then
                          (c12 rf y2 [IntKind.i64.wrap ((IntKind.i64.wrap ((-2) * w54.1.2.2.2.2.2)) - 1)]).bind fun (y59 : List Int) =>
                          k12 rb y59 d2 d3 (IntKind.i64.wrap (d4 + 1))
                        else
                        bif w54.2 then
                          (c12 rf y2 [IntKind.i64.wrap (2 * w54.1.2.2.2.2.2)]).bind fun (y60 : List Int) =>
                          k12 rb y60 d2 d3 (IntKind.i64.wrap (d4 + 1))
                        else
                          k12 rb y2 d2 d3 (IntKind.i64.wrap (d4 + 1))
                      else
                      bif w54.2 then
                        (c12 rf y2 [IntKind.i64.wrap (2 * w54.1.2.2.2.2.2)]).bind fun (y61 : List Int) =>
                        k12 rb y61 d2 d3 (IntKind.i64.wrap (d4 + 1))
                      else
                        k12 rb y2 d2 d3 (IntKind.i64.wrap (d4 + 1))
    else
      none
  else
    some d1
theorem eb12 (rf : T.RF) (rb : T.RB) (d1 : List Int) (d2 : List XI) (d3 : Int) (d4 : Int) : T.stepB rf rb 12 (d1, d2, d3, d4) = b12 rf rb d1 d2 d3 d4 := by kernel_rfl
theorem ob12 {d1 : List Int} {d2 : List XI} {d3 : Int} {d4 : Int} {y : (List Int)} (h : b12 T.rf T.rb d1 d2 d3 d4 = some y) : k12 T.rb d1 d2 d3 d4 = some y := T.rb_of (κ := 12) (d := (d1, d2, d3, d4)) ((eb12 T.rf T.rb d1 d2 d3 d4).trans h)

/- image.Encode -/
noncomputable def r3 (rf : T.RF) (rb : T.RB) (d1 : XC) : Option (List UInt8 × Int) :=
  (c4 rf d1).bind fun (y1 : Int) =>
  bif y1 != 0 then
    some (([] : List UInt8), 1)
  else
    (k11 rb d1.2.2.2.2 (((d1.2.2.2.2.length : Nat) : Int)) 0).bind fun (z2 : (List UInt8 × Int) ⊕ Unit) =>
    match z2 with
    | .inl u3 =>
      some u3
    | .inr w4 =>
      (c12 rf [66, 65, 73, 76] [d1.2.1, d1.2.2.1, ((d1.2.2.2.2.length : Nat) : Int)]).bind fun (y5 : List Int) =>
      (c12 rf y5 d1.2.2.2.2).bind fun (y6 : List Int) =>
      (c12 rf y6 [((d1.1.length : Nat) : Int)]).bind fun (y7 : List Int) =>
      (k12 rb y7 d1.1 (((d1.1.length : Nat) : Int)) 0).bind fun (z8 : List Int) =>
      (c12 rf z8 [((d1.2.2.2.1.length : Nat) : Int)]).bind fun (y9 : List Int) =>
      (c12 rf y9 d1.2.2.2.1).bind fun (y10 : List Int) =>
      some (strOf y10, 0)
theorem er3 (rf : T.RF) (rb : T.RB) (d1 : XC) : T.stepF rf rb 3 d1 = r3 rf rb d1 := by kernel_rfl
theorem or3 {d1 : XC} {y : (List UInt8 × Int)} (h : r3 T.rf T.rb d1 = some y) : c3 T.rf d1 = some y := T.rf_of (f := 3) (d := d1) ((er3 T.rf T.rb d1).trans h)

/- internal/stringslite.HasPrefix -/
noncomputable def r16 (rf : T.RF) (rb : T.RB) (d1 : List UInt8) (d2 : List UInt8) : Option Bool :=
  bif decide ((((d1.length : Nat) : Int)) ≥ (((d2.length : Nat) : Int))) then
    bif inb' (((d2.length : Nat) : Int)) d1.length then
      some ((sub d1 (some (0, (d2.length - 0)))) == d2)
    else
      none
  else
    some false
theorem er16 (rf : T.RF) (rb : T.RB) (d1 : List UInt8) (d2 : List UInt8) : T.stepF rf rb 16 (d1, d2) = r16 rf rb d1 d2 := by kernel_rfl
theorem or16 {d1 : List UInt8} {d2 : List UInt8} {y : Bool} (h : r16 T.rf T.rb d1 d2 = some y) : c16 T.rf d1 d2 = some y := T.rf_of (f := 16) (d := (d1, d2)) ((er16 T.rf T.rb d1 d2).trans h)

/- strings.HasPrefix -/
noncomputable def r15 (rf : T.RF) (rb : T.RB) (d1 : List UInt8) (d2 : List UInt8) : Option Bool :=
  (c16 rf d1 d2).bind fun (y1 : Bool) =>
  some y1
theorem er15 (rf : T.RF) (rb : T.RB) (d1 : List UInt8) (d2 : List UInt8) : T.stepF rf rb 15 (d1, d2) = r15 rf rb d1 d2 := by kernel_rfl
theorem or15 {d1 : List UInt8} {d2 : List UInt8} {y : Bool} (h : r15 T.rf T.rb d1 d2 = some y) : c15 T.rf d1 d2 = some y := T.rf_of (f := 15) (d := (d1, d2)) ((er15 T.rf T.rb d1 d2).trans h)

/- internal/stringslite.CutPrefix -/
noncomputable def r18 (rf : T.RF) (rb : T.RB) (d1 : List UInt8) (d2 : List UInt8) : Option (List UInt8 × Bool) :=
  (c16 rf d1 d2).bind fun (y1 : Bool) =>
  bif !y1 then
    some (d1, false)
  else
  bif inb' (((d2.length : Nat) : Int)) d1.length then
    some (sub d1 (some (d2.length, (d1.length - d2.length))), true)
  else
    none
theorem er18 (rf : T.RF) (rb : T.RB) (d1 : List UInt8) (d2 : List UInt8) : T.stepF rf rb 18 (d1, d2) = r18 rf rb d1 d2 := by kernel_rfl
theorem or18 {d1 : List UInt8} {d2 : List UInt8} {y : (List UInt8 × Bool)} (h : r18 T.rf T.rb d1 d2 = some y) : c18 T.rf d1 d2 = some y := T.rf_of (f := 18) (d := (d1, d2)) ((er18 T.rf T.rb d1 d2).trans h)

/- strings.CutPrefix -/
noncomputable def r17 (rf : T.RF) (rb : T.RB) (d1 : List UInt8) (d2 : List UInt8) : Option (List UInt8 × Bool) :=
  (c18 rf d1 d2).bind fun (y1 : List UInt8 × Bool) =>
  some y1
theorem er17 (rf : T.RF) (rb : T.RB) (d1 : List UInt8) (d2 : List UInt8) : T.stepF rf rb 17 (d1, d2) = r17 rf rb d1 d2 := by kernel_rfl
theorem or17 {d1 : List UInt8} {d2 : List UInt8} {y : (List UInt8 × Bool)} (h : r17 T.rf T.rb d1 d2 = some y) : c17 T.rf d1 d2 = some y := T.rf_of (f := 17) (d := (d1, d2)) ((er17 T.rf T.rb d1 d2).trans h)

/- (*bailment/image.reader).number loop 0 -/
noncomputable def b13 (rf : T.RF) (rb : T.RB) (d1 : List UInt8 × Int) (d2 : Int) (d3 : Int) : Option (((List UInt8 × Int) × Int) ⊕ (List UInt8 × Int)) :=
  bif d1.2 == 0 then
    bif d1.1 == ([] : List UInt8) then
      k13 rb (d1.1, 16) d2 (IntKind.i64.wrap (d3 + 1))
    else
    bif inb 0 d1.1.length then
      (nth d1.1 0).bind fun (b1 : UInt8) =>
      bif inb' 1 d1.1.length then
        bif decide ((IntKind.i64.wrap (7 * d3)) < 0) then
          none
        else
        bif decide ((IntKind.i64.wrap (d2 + (shlI IntKind.i64 (Int.tmod (IntKind.i64.wrap (((b1.toNat : Nat) : Int))) 128) (IntKind.i64.wrap (7 * d3))))) > 4294967295) then
          k13 rb (sub d1.1 (some (1, (d1.1.length - 1))), 15) (IntKind.i64.wrap (d2 + (shlI IntKind.i64 (Int.tmod (IntKind.i64.wrap (((b1.toNat : Nat) : Int))) 128) (IntKind.i64.wrap (7 * d3))))) (IntKind.i64.wrap (d3 + 1))
        else
        bif decide ((IntKind.i64.wrap (((b1.toNat : Nat) : Int))) < 128) then
          some (.inl ((sub d1.1 (some (1, (d1.1.length - 1))), d1.2), IntKind.i64.wrap (d2 + (shlI IntKind.i64 (Int.tmod (IntKind.i64.wrap (((b1.toNat : Nat) : Int))) 128) (IntKind.i64.wrap (7 * d3))))))
        else
        bif d3 == 5 then
          k13 rb (sub d1.1 (some (1, (d1.1.length - 1))), 15) (IntKind.i64.wrap (d2 + (shlI IntKind.i64 (Int.tmod (IntKind.i64.wrap (((b1.toNat : Nat) : Int))) 128) (IntKind.i64.wrap (7 * d3))))) (IntKind.i64.wrap (d3 + 1))
        else
          k13 rb (sub d1.1 (some (1, (d1.1.length - 1))), d1.2) (IntKind.i64.wrap (d2 + (shlI IntKind.i64 (Int.tmod (IntKind.i64.wrap (((b1.toNat : Nat) : Int))) 128) (IntKind.i64.wrap (7 * d3))))) (IntKind.i64.wrap (d3 + 1))
      else
        none
    else
      none
  else
    some (.inr d1)
theorem eb13 (rf : T.RF) (rb : T.RB) (d1 : List UInt8 × Int) (d2 : Int) (d3 : Int) : T.stepB rf rb 13 (d1, d2, d3) = b13 rf rb d1 d2 d3 := by kernel_rfl
theorem ob13 {d1 : List UInt8 × Int} {d2 : Int} {d3 : Int} {y : (((List UInt8 × Int) × Int) ⊕ (List UInt8 × Int))} (h : b13 T.rf T.rb d1 d2 d3 = some y) : k13 T.rb d1 d2 d3 = some y := T.rb_of (κ := 13) (d := (d1, d2, d3)) ((eb13 T.rf T.rb d1 d2 d3).trans h)

/- (*bailment/image.reader).number -/
noncomputable def r19 (rf : T.RF) (rb : T.RB) (d1 : List UInt8 × Int) : Option ((List UInt8 × Int) × Int) :=
  (k13 rb d1 0 0).bind fun (z1 : ((List UInt8 × Int) × Int) ⊕ (List UInt8 × Int)) =>
  match z1 with
  | .inl u2 =>
    some u2
  | .inr w3 =>
    some (w3, 0)
theorem er19 (rf : T.RF) (rb : T.RB) (d1 : List UInt8 × Int) : T.stepF rf rb 19 d1 = r19 rf rb d1 := by kernel_rfl
theorem or19 {d1 : List UInt8 × Int} {y : ((List UInt8 × Int) × Int)} (h : r19 T.rf T.rb d1 = some y) : c19 T.rf d1 = some y := T.rf_of (f := 19) (d := d1) ((er19 T.rf T.rb d1).trans h)

/- (*bailment/image.reader).list loop 0 -/
noncomputable def b15 (rf : T.RF) (rb : T.RB) (d1 : List UInt8 × Int) (d2 : List Int) (d3 : Int) : Option ((List UInt8 × Int) × List Int) :=
  bif decide (d3 > 0) then
    bif d1.2 == 0 then
      (c19 rf d1).bind fun (y1 : (List UInt8 × Int) × Int) =>
      bif (Nat.ble (d2.length + 1) most) && true then
        k15 rb y1.1 (d2 ++ [y1.2]) (IntKind.i64.wrap (d3 - 1))
      else
        none
    else
      some (d1, d2)
  else
    some (d1, d2)
theorem eb15 (rf : T.RF) (rb : T.RB) (d1 : List UInt8 × Int) (d2 : List Int) (d3 : Int) : T.stepB rf rb 15 (d1, d2, d3) = b15 rf rb d1 d2 d3 := by kernel_rfl
theorem ob15 {d1 : List UInt8 × Int} {d2 : List Int} {d3 : Int} {y : ((List UInt8 × Int) × List Int)} (h : b15 T.rf T.rb d1 d2 d3 = some y) : k15 T.rb d1 d2 d3 = some y := T.rb_of (κ := 15) (d := (d1, d2, d3)) ((eb15 T.rf T.rb d1 d2 d3).trans h)

/- (*bailment/image.reader).list -/
noncomputable def r20 (rf : T.RF) (rb : T.RB) (d1 : List UInt8 × Int) : Option ((List UInt8 × Int) × List Int) :=
  (c19 rf d1).bind fun (y1 : (List UInt8 × Int) × Int) =>
  (k15 rb y1.1 [] y1.2).bind fun (z2 : (List UInt8 × Int) × List Int) =>
  some z2
theorem er20 (rf : T.RF) (rb : T.RB) (d1 : List UInt8 × Int) : T.stepF rf rb 20 d1 = r20 rf rb d1 := by kernel_rfl
theorem or20 {d1 : List UInt8 × Int} {y : ((List UInt8 × Int) × List Int)} (h : r20 T.rf T.rb d1 = some y) : c20 T.rf d1 = some y := T.rf_of (f := 20) (d := d1) ((er20 T.rf T.rb d1).trans h)

/- (*bailment/image.reader).ins -/
noncomputable def r21 (rf : T.RF) (rb : T.RB) (d1 : List UInt8 × Int) : Option ((List UInt8 × Int) × XI) :=
  (c19 rf d1).bind fun (y1 : (List UInt8 × Int) × Int) =>
  (c13 rf (y1.2, 0, 0, 0, 0, 0)).bind fun (y2 : (XI × Bool) ⊕ (XI × Bool) ⊕ (XI × Bool) ⊕ (XI × Bool) ⊕ (XI × Bool) ⊕ (XI × Bool) ⊕ (XI × Bool) ⊕ (XI × Bool) ⊕ (XI × Bool)) =>
  match y2 with
  | .inl u3 =>
    (c19 rf y1.1).bind fun (y5 : (List UInt8 × Int) × Int) =>
    bif u3.2 then
      (c19 rf y5.1).bind fun (y6 : (List UInt8 × Int) × Int) =>
      bif (Int.tmod y6.2 2) == 1 then
        some (y6.1, u3.1.1, u3.1.2.1, y5.2, u3.1.2.2.2.1, u3.1.2.2.2.2.1, IntKind.i64.wrap ((IntKind.i64.wrap (0 - (IntKind.i64.wrap (Int.tdiv y6.2 2)))) - 1))
      else
        some (y6.1, u3.1.1, u3.1.2.1, y5.2, u3.1.2.2.2.1, u3.1.2.2.2.2.1, IntKind.i64.wrap (Int.tdiv y6.2 2))
    else
      some (y5.1, u3.1.1, u3.1.2.1, y5.2, u3.1.2.2.2)
  | .inr w4 =>
    match w4 with
    | .inl u7 =>
      (c19 rf y1.1).bind fun (y9 : (List UInt8 × Int) × Int) =>
      bif u7.2 then
        (c19 rf y9.1).bind fun (y10 : (List UInt8 × Int) × Int) =>
        bif (Int.tmod y10.2 2) == 1 then
          some (y10.1, u7.1.1, y9.2, u7.1.2.2.1, u7.1.2.2.2.1, u7.1.2.2.2.2.1, IntKind.i64.wrap ((IntKind.i64.wrap (0 - (IntKind.i64.wrap (Int.tdiv y10.2 2)))) - 1))
        else
          some (y10.1, u7.1.1, y9.2, u7.1.2.2.1, u7.1.2.2.2.1, u7.1.2.2.2.2.1, IntKind.i64.wrap (Int.tdiv y10.2 2))
      else
        some (y9.1, u7.1.1, y9.2, u7.1.2.2)
    | .inr w8 =>
      match w8 with
      | .inl u11 =>
        (c19 rf y1.1).bind fun (y13 : (List UInt8 × Int) × Int) =>
        (c19 rf y13.1).bind fun (y14 : (List UInt8 × Int) × Int) =>
        (c19 rf y14.1).bind fun (y15 : (List UInt8 × Int) × Int) =>
        bif u11.2 then
          (c19 rf y15.1).bind fun (y16 : (List UInt8 × Int) × Int) =>
          bif (Int.tmod y16.2 2) == 1 then
            some (y16.1, u11.1.1, y13.2, y14.2, y15.2, u11.1.2.2.2.2.1, IntKind.i64.wrap ((IntKind.i64.wrap (0 - (IntKind.i64.wrap (Int.tdiv y16.2 2)))) - 1))
          else
            some (y16.1, u11.1.1, y13.2, y14.2, y15.2, u11.1.2.2.2.2.1, IntKind.i64.wrap (Int.tdiv y16.2 2))
        else
          some (y15.1, u11.1.1, y13.2, y14.2, y15.2, u11.1.2.2.2.2)
      | .inr w12 =>
        match w12 with
        | .inl u17 =>
          bif y1.1.2 == 0 then
            bif u17.2 then
              (c19 rf (y1.1.1, 15)).bind fun (y19 : (List UInt8 × Int) × Int) =>
              bif (Int.tmod y19.2 2) == 1 then
                some (y19.1, u17.1.1, u17.1.2.1, u17.1.2.2.1, u17.1.2.2.2.1, u17.1.2.2.2.2.1, IntKind.i64.wrap ((IntKind.i64.wrap (0 - (IntKind.i64.wrap (Int.tdiv y19.2 2)))) - 1))
              else
                some (y19.1, u17.1.1, u17.1.2.1, u17.1.2.2.1, u17.1.2.2.2.1, u17.1.2.2.2.2.1, IntKind.i64.wrap (Int.tdiv y19.2 2))
            else
              some ((y1.1.1, 15), u17.1)
          else
          bif u17.2 then
            (c19 rf y1.1).bind fun (y20 : (List UInt8 × Int) × Int) =>
            bif (Int.tmod y20.2 2) == 1 then
              some (y20.1, u17.1.1, u17.1.2.1, u17.1.2.2.1, u17.1.2.2.2.1, u17.1.2.2.2.2.1, IntKind.i64.wrap ((IntKind.i64.wrap (0 - (IntKind.i64.wrap (Int.tdiv y20.2 2)))) - 1))
            else
              some (y20.1, u17.1.1, u17.1.2.1, u17.1.2.2.1, u17.1.2.2.2.1, u17.1.2.2.2.2.1, IntKind.i64.wrap (Int.tdiv y20.2 2))
          else
            some (y1.1, u17.1)
        | .inr w18 =>
          match w18 with
          | .inl u21 =>
            (c19 rf y1.1).bind fun (y23 : (List UInt8 × Int) × Int) =>
            (c19 rf y23.1).bind fun (y24 : (List UInt8 × Int) × Int) =>
            (c19 rf y24.1).bind fun (y25 : (List UInt8 × Int) × Int) =>
            (c19 rf y25.1).bind fun (y26 : (List UInt8 × Int) × Int) =>
            bif u21.2 then
              (c19 rf y26.1).bind fun (y27 : (List UInt8 × Int) × Int) =>
              bif (Int.tmod y27.2 2) == 1 then
                some (y27.1, u21.1.1, y23.2, y24.2, y25.2, y26.2, IntKind.i64.wrap ((IntKind.i64.wrap (0 - (IntKind.i64.wrap (Int.tdiv y27.2 2)))) - 1))
              else
                some (y27.1, u21.1.1, y23.2, y24.2, y25.2, y26.2, IntKind.i64.wrap (Int.tdiv y27.2 2))
            else
              some (y26.1, u21.1.1, y23.2, y24.2, y25.2, y26.2, u21.1.2.2.2.2.2)
          | .inr w22 =>
            match w22 with
            | .inl u28 =>
              (c19 rf y1.1).bind fun (y30 : (List UInt8 × Int) × Int) =>
              (c19 rf y30.1).bind fun (y31 : (List UInt8 × Int) × Int) =>
              (c19 rf y31.1).bind fun (y32 : (List UInt8 × Int) × Int) =>
              bif u28.2 then
                (c19 rf y32.1).bind fun (y33 : (List UInt8 × Int) × Int) =>
                bif (Int.tmod y33.2 2) == 1 then
                  some (y33.1, u28.1.1, y30.2, y31.2, y32.2, u28.1.2.2.2.2.1, IntKind.i64.wrap ((IntKind.i64.wrap (0 - (IntKind.i64.wrap (Int.tdiv y33.2 2)))) - 1))
                else
                  some (y33.1, u28.1.1, y30.2, y31.2, y32.2, u28.1.2.2.2.2.1, IntKind.i64.wrap (Int.tdiv y33.2 2))
              else
                some (y32.1, u28.1.1, y30.2, y31.2, y32.2, u28.1.2.2.2.2)
            | .inr w29 =>
              match w29 with
              | .inl u34 =>
                (c19 rf y1.1).bind fun (y36 : (List UInt8 × Int) × Int) =>
                (c19 rf y36.1).bind fun (y37 : (List UInt8 × Int) × Int) =>
                bif u34.2 then
                  (c19 rf y37.1).bind fun (y38 : (List UInt8 × Int) × Int) =>
                  bif (Int.tmod y38.2 2) == 1 then
                    some (y38.1, u34.1.1, y36.2, y37.2, u34.1.2.2.2.1, u34.1.2.2.2.2.1, IntKind.i64.wrap ((IntKind.i64.wrap (0 - (IntKind.i64.wrap (Int.tdiv y38.2 2)))) - 1))
                  else
                    some (y38.1, u34.1.1, y36.2, y37.2, u34.1.2.2.2.1, u34.1.2.2.2.2.1, IntKind.i64.wrap (Int.tdiv y38.2 2))
                else
                  some (y37.1, u34.1.1, y36.2, y37.2, u34.1.2.2.2)
              | .inr w35 =>
                match w35 with
                | .inl u39 =>
                  (c19 rf y1.1).bind fun (y41 : (List UInt8 × Int) × Int) =>
                  bif u39.2 then
                    (c19 rf y41.1).bind fun (y42 : (List UInt8 × Int) × Int) =>
                    bif (Int.tmod y42.2 2) == 1 then
                      some (y42.1, u39.1.1, y41.2, u39.1.2.2.1, u39.1.2.2.2.1, u39.1.2.2.2.2.1, IntKind.i64.wrap ((IntKind.i64.wrap (0 - (IntKind.i64.wrap (Int.tdiv y42.2 2)))) - 1))
                    else
                      some (y42.1, u39.1.1, y41.2, u39.1.2.2.1, u39.1.2.2.2.1, u39.1.2.2.2.2.1, IntKind.i64.wrap (Int.tdiv y42.2 2))
                  else
                    some (y41.1, u39.1.1, y41.2, u39.1.2.2)
                | .inr w40 =>
                  bif y1.1.2 == 0 then
                    bif w40.2 then
                      (c19 rf (y1.1.1, 15)).bind fun (y43 : (List UInt8 × Int) × Int) =>
                      bif (Int.tmod y43.2 2) == 1 then
                        some (y43.1, w40.1.1, w40.1.2.1, w40.1.2.2.1, w40.1.2.2.2.1, w40.1.2.2.2.2.1, IntKind.i64.wrap ((IntKind.i64.wrap (0 - (IntKind.i64.wrap (Int.tdiv y43.2 2)))) - 1))
                      else
                        some (y43.1, w40.1.1, w40.1.2.1, w40.1.2.2.1, w40.1.2.2.2.1, w40.1.2.2.2.2.1, IntKind.i64.wrap (Int.tdiv y43.2 2))
                    else
                      some ((y1.1.1, 15), w40.1)
                  else
                  bif w40.2 then
                    (c19 rf y1.1).bind fun (y44 : (List UInt8 × Int) × Int) =>
                    bif (Int.tmod y44.2 2) == 1 then
                      some (y44.1, w40.1.1, w40.1.2.1, w40.1.2.2.1, w40.1.2.2.2.1, w40.1.2.2.2.2.1, IntKind.i64.wrap ((IntKind.i64.wrap (0 - (IntKind.i64.wrap (Int.tdiv y44.2 2)))) - 1))
                    else
                      some (y44.1, w40.1.1, w40.1.2.1, w40.1.2.2.1, w40.1.2.2.2.1, w40.1.2.2.2.2.1, IntKind.i64.wrap (Int.tdiv y44.2 2))
                  else
                    some (y1.1, w40.1)
theorem er21 (rf : T.RF) (rb : T.RB) (d1 : List UInt8 × Int) : T.stepF rf rb 21 d1 = r21 rf rb d1 := by kernel_rfl
theorem or21 {d1 : List UInt8 × Int} {y : ((List UInt8 × Int) × XI)} (h : r21 T.rf T.rb d1 = some y) : c21 T.rf d1 = some y := T.rf_of (f := 21) (d := d1) ((er21 T.rf T.rb d1).trans h)

/- image.Decode loop 0 -/
noncomputable def b21q (rf : T.RF) (rb : T.RB) (d1 : List UInt8 × Int) (d2 : Int) (d3 : Int) (d4 : List Int) (d5 : List XI) (d6 : List Int) (d7 : Int) : Option ((List UInt8 × Int) × Int × Int × List Int × List Int × List XI) :=
  bif decide (d7 > 0) then
    bif d1.2 == 0 then
      agree (
        (c21 rf d1).bind fun (y1 : (List UInt8 × Int) × XI) =>
        bif (Nat.ble (d5.length + 1) most) && true then
          k21 rb y1.1 d2 d3 d4 (d5 ++ [y1.2]) d6 (IntKind.i64.wrap (d7 - 1))
        else
          none
      ) (
        (c21 rf d1).bind fun (y1 : (List UInt8 × Int) × XI) =>
        agN 1 (
          bif (Nat.ble (d5.length + 1) most) && true then
            k21 rb y1.1 d2 d3 d4 (d5 ++ [y1.2]) d6 (IntKind.i64.wrap (d7 - 1))
          else
            none
        )
      )
    else
      some (d1, d2, d3, d4, d6, d5)
  else
    some (d1, d2, d3, d4, d6, d5)
noncomputable def b21 (rf : T.RF) (rb : T.RB) (d1 : List UInt8 × Int) (d2 : Int) (d3 : Int) (d4 : List Int) (d5 : List XI) (d6 : List Int) (d7 : Int) : Option ((List UInt8 × Int) × Int × Int × List Int × List Int × List XI) :=
  bif decide (d7 > 0) then
    bif d1.2 == 0 then
      (c21 rf d1).bind fun (y1 : (List UInt8 × Int) × XI) =>
      bif (Nat.ble (d5.length + 1) most) && true then
        k21 rb y1.1 d2 d3 d4 (d5 ++ [y1.2]) d6 (IntKind.i64.wrap (d7 - 1))
      else
        none
    else
      some (d1, d2, d3, d4, d6, d5)
  else
    some (d1, d2, d3, d4, d6, d5)
theorem eb21 (rf : T.RF) (rb : T.RB) (d1 : List UInt8 × Int) (d2 : Int) (d3 : Int) (d4 : List Int) (d5 : List XI) (d6 : List Int) (d7 : Int) : T.stepB rf rb 21 (d1, d2, d3, d4, d5, d6, d7) = b21q rf rb d1 d2 d3 d4 d5 d6 d7 := by kernel_rfl
theorem sb21 (rf : T.RF) (rb : T.RB) (d1 : List UInt8 × Int) (d2 : Int) (d3 : Int) (d4 : List Int) (d5 : List XI) (d6 : List Int) (d7 : Int) : b21q rf rb d1 d2 d3 d4 d5 d6 d7 = b21 rf rb d1 d2 d3 d4 d5 d6 d7 := by
  unfold b21q b21; simp only [agN_eq, agree_self, agree_swap]
theorem ob21 {d1 : List UInt8 × Int} {d2 : Int} {d3 : Int} {d4 : List Int} {d5 : List XI} {d6 : List Int} {d7 : Int} {y : ((List UInt8 × Int) × Int × Int × List Int × List Int × List XI)} (h : b21 T.rf T.rb d1 d2 d3 d4 d5 d6 d7 = some y) : k21 T.rb d1 d2 d3 d4 d5 d6 d7 = some y := T.rb_of (κ := 21) (d := (d1, d2, d3, d4, d5, d6, d7)) (((eb21 T.rf T.rb d1 d2 d3 d4 d5 d6 d7).trans (sb21 T.rf T.rb d1 d2 d3 d4 d5 d6 d7)).trans h)

/- image.Decode -/
noncomputable def r14 (rf : T.RF) (rb : T.RB) (d1 : List UInt8) : Option (XC × Int) :=
  (c15 rf ([66, 65, 73, 76] : List UInt8) d1).bind fun (y1 : Bool) =>
  bif y1 then
    bif !(d1 == ([66, 65, 73, 76] : List UInt8)) then
      some (([], 0, 0, [], []), 16)
    else
      (c17 rf d1 ([66, 65, 73, 76] : List UInt8)).bind fun (y2 : List UInt8 × Bool) =>
      bif !y2.2 then
        some (([], 0, 0, [], []), 15)
      else
        (c19 rf (y2.1, 0)).bind fun (y3 : (List UInt8 × Int) × Int) =>
        (c19 rf y3.1).bind fun (y4 : (List UInt8 × Int) × Int) =>
        (c20 rf y4.1).bind fun (y5 : (List UInt8 × Int) × List Int) =>
        (c19 rf y5.1).bind fun (y6 : (List UInt8 × Int) × Int) =>
        (k21 rb y6.1 y3.2 y4.2 [] [] y5.2 y6.2).bind fun (z7 : (List UInt8 × Int) × Int × Int × List Int × List Int × List XI) =>
        (c20 rf z7.1).bind fun (y8 : (List UInt8 × Int) × List Int) =>
        bif y8.1.2 != 0 then
          some (([], 0, 0, [], []), y8.1.2)
        else
          (c3 rf (z7.2.2.2.2.2, z7.2.1, z7.2.2.1, y8.2, z7.2.2.2.2.1)).bind fun (y9 : List UInt8 × Int) =>
          bif y9.2 != 0 then
            some (([], 0, 0, [], []), 15)
          else
          bif !(y9.1 == d1) then
            some (([], 0, 0, [], []), 15)
          else
            some ((z7.2.2.2.2.2, z7.2.1, z7.2.2.1, y8.2, z7.2.2.2.2.1), 0)
  else
    (c17 rf d1 ([66, 65, 73, 76] : List UInt8)).bind fun (y10 : List UInt8 × Bool) =>
    bif !y10.2 then
      some (([], 0, 0, [], []), 15)
    else
      (c19 rf (y10.1, 0)).bind fun (y11 : (List UInt8 × Int) × Int) =>
      (c19 rf y11.1).bind fun (y12 : (List UInt8 × Int) × Int) =>
      (c20 rf y12.1).bind fun (y13 : (List UInt8 × Int) × List Int) =>
      (c19 rf y13.1).bind fun (y14 : (List UInt8 × Int) × Int) =>
      (k21 rb y14.1 y11.2 y12.2 [] [] y13.2 y14.2).bind fun (z15 : (List UInt8 × Int) × Int × Int × List Int × List Int × List XI) =>
      (c20 rf z15.1).bind fun (y16 : (List UInt8 × Int) × List Int) =>
      bif y16.1.2 != 0 then
        some (([], 0, 0, [], []), y16.1.2)
      else
        (c3 rf (z15.2.2.2.2.2, z15.2.1, z15.2.2.1, y16.2, z15.2.2.2.2.1)).bind fun (y17 : List UInt8 × Int) =>
        bif y17.2 != 0 then
          some (([], 0, 0, [], []), 15)
        else
        bif !(y17.1 == d1) then
          some (([], 0, 0, [], []), 15)
        else
          some ((z15.2.2.2.2.2, z15.2.1, z15.2.2.1, y16.2, z15.2.2.2.2.1), 0)
theorem er14 (rf : T.RF) (rb : T.RB) (d1 : List UInt8) : T.stepF rf rb 14 d1 = r14 rf rb d1 := by kernel_rfl
theorem or14 {d1 : List UInt8} {y : (XC × Int)} (h : r14 T.rf T.rb d1 = some y) : c14 T.rf d1 = some y := T.rf_of (f := 14) (d := d1) ((er14 T.rf T.rb d1).trans h)

/- bailmentlaw16.Told loop 0 -/
noncomputable def b23 (rf : T.RF) (rb : T.RB) (d1 : XC) (d2 : Int) (d3 : Int) (d4 : List Int) (d5 : List Int) (d6 : List XI) (d7 : Int) : Option (XC × Int × Int × List Int × List Int × List XI) :=
  bif decide (d7 < (((d1.1.length : Nat) : Int))) then
    bif inb d7 d1.1.length then
      (nth d1.1 d7.toNat).bind fun (x1 : XI) =>
      bif (Nat.ble (d6.length + 1) most) && true then
        k23 rb d1 d2 d3 d4 d5 (d6 ++ [x1]) (IntKind.i64.wrap (d7 + 1))
      else
        none
    else
      none
  else
    some (d1, d2, d3, d4, d5, d6)
theorem eb23 (rf : T.RF) (rb : T.RB) (d1 : XC) (d2 : Int) (d3 : Int) (d4 : List Int) (d5 : List Int) (d6 : List XI) (d7 : Int) : T.stepB rf rb 23 (d1, d2, d3, d4, d5, d6, d7) = b23 rf rb d1 d2 d3 d4 d5 d6 d7 := by kernel_rfl
theorem ob23 {d1 : XC} {d2 : Int} {d3 : Int} {d4 : List Int} {d5 : List Int} {d6 : List XI} {d7 : Int} {y : (XC × Int × Int × List Int × List Int × List XI)} (h : b23 T.rf T.rb d1 d2 d3 d4 d5 d6 d7 = some y) : k23 T.rb d1 d2 d3 d4 d5 d6 d7 = some y := T.rb_of (κ := 23) (d := (d1, d2, d3, d4, d5, d6, d7)) ((eb23 T.rf T.rb d1 d2 d3 d4 d5 d6 d7).trans h)

/- bailmentlaw16.Told -/
noncomputable def r22 (rf : T.RF) (rb : T.RB) (d1 : XC) : Option XC :=
  (k23 rb d1 d1.2.1 d1.2.2.1 d1.2.2.2.1 d1.2.2.2.2 [] 0).bind fun (z1 : XC × Int × Int × List Int × List Int × List XI) =>
  some (z1.2.2.2.2.2, z1.2.1, z1.2.2.1, z1.2.2.2.1, z1.2.2.2.2.1)
theorem er22 (rf : T.RF) (rb : T.RB) (d1 : XC) : T.stepF rf rb 22 d1 = r22 rf rb d1 := by kernel_rfl
theorem or22 {d1 : XC} {y : XC} (h : r22 T.rf T.rb d1 = some y) : c22 T.rf d1 = some y := T.rf_of (f := 22) (d := d1) ((er22 T.rf T.rb d1).trans h)

/- bailmentref03.Ints loop 0 -/
noncomputable def b24 (rf : T.RF) (rb : T.RB) (d1 : List Int) (d2 : List Int) (d3 : Int) : Option (Bool ⊕ Unit) :=
  bif decide (d3 < (((d1.length : Nat) : Int))) then
    bif inb d3 d1.length then
      (nth d1 d3.toNat).bind fun (x1 : Int) =>
      bif inb d3 d2.length then
        (nth d2 d3.toNat).bind fun (x2 : Int) =>
        bif x1 != x2 then
          some (.inl false)
        else
          k24 rb d1 d2 (IntKind.i64.wrap (d3 + 1))
      else
        none
    else
      none
  else
    some (.inr ())
theorem eb24 (rf : T.RF) (rb : T.RB) (d1 : List Int) (d2 : List Int) (d3 : Int) : T.stepB rf rb 24 (d1, d2, d3) = b24 rf rb d1 d2 d3 := by kernel_rfl
theorem ob24 {d1 : List Int} {d2 : List Int} {d3 : Int} {y : (Bool ⊕ Unit)} (h : b24 T.rf T.rb d1 d2 d3 = some y) : k24 T.rb d1 d2 d3 = some y := T.rb_of (κ := 24) (d := (d1, d2, d3)) ((eb24 T.rf T.rb d1 d2 d3).trans h)

/- bailmentref03.Ints -/
noncomputable def r24 (rf : T.RF) (rb : T.RB) (d1 : List Int) (d2 : List Int) : Option Bool :=
  bif (((d1.length : Nat) : Int)) != (((d2.length : Nat) : Int)) then
    some false
  else
    (k24 rb d1 d2 0).bind fun (z1 : Bool ⊕ Unit) =>
    match z1 with
    | .inl u2 =>
      some u2
    | .inr w3 =>
      some true
theorem er24 (rf : T.RF) (rb : T.RB) (d1 : List Int) (d2 : List Int) : T.stepF rf rb 24 (d1, d2) = r24 rf rb d1 d2 := by kernel_rfl
theorem or24 {d1 : List Int} {d2 : List Int} {y : Bool} (h : r24 T.rf T.rb d1 d2 = some y) : c24 T.rf d1 d2 = some y := T.rf_of (f := 24) (d := (d1, d2)) ((er24 T.rf T.rb d1 d2).trans h)

/- bailmentref16.Same loop 0 -/
noncomputable def b25 (rf : T.RF) (rb : T.RB) (d1 : XC) (d2 : XC) (d3 : Int) : Option ((XC × XC × Bool) ⊕ (XC × XC)) :=
  bif decide (d3 < (((d1.1.length : Nat) : Int))) then
    bif inb d3 d1.1.length then
      (nth d1.1 d3.toNat).bind fun (x1 : XI) =>
      bif inb d3 d2.1.length then
        (nth d2.1 d3.toNat).bind fun (x2 : XI) =>
        bif !((x1.1 == x2.1) && ((x1.2.1 == x2.2.1) && ((x1.2.2.1 == x2.2.2.1) && ((x1.2.2.2.1 == x2.2.2.2.1) && ((x1.2.2.2.2.1 == x2.2.2.2.2.1) && (x1.2.2.2.2.2 == x2.2.2.2.2.2)))))) then
          some (.inl (d1, d2, false))
        else
          k25 rb d1 d2 (IntKind.i64.wrap (d3 + 1))
      else
        none
    else
      none
  else
    some (.inr (d1, d2))
theorem eb25 (rf : T.RF) (rb : T.RB) (d1 : XC) (d2 : XC) (d3 : Int) : T.stepB rf rb 25 (d1, d2, d3) = b25 rf rb d1 d2 d3 := by kernel_rfl
theorem ob25 {d1 : XC} {d2 : XC} {d3 : Int} {y : ((XC × XC × Bool) ⊕ (XC × XC))} (h : b25 T.rf T.rb d1 d2 d3 = some y) : k25 T.rb d1 d2 d3 = some y := T.rb_of (κ := 25) (d := (d1, d2, d3)) ((eb25 T.rf T.rb d1 d2 d3).trans h)

/- bailmentref16.Same -/
noncomputable def r23 (rf : T.RF) (rb : T.RB) (d1 : XC) (d2 : XC) : Option Bool :=
  bif d1.2.1 != d2.2.1 then
    some false
  else
  bif d1.2.2.1 != d2.2.2.1 then
    some false
  else
  bif (((d1.1.length : Nat) : Int)) != (((d2.1.length : Nat) : Int)) then
    some false
  else
    (c24 rf d1.2.2.2.1 d2.2.2.2.1).bind fun (y1 : Bool) =>
    bif !y1 then
      some false
    else
      (c24 rf d1.2.2.2.2 d2.2.2.2.2).bind fun (y2 : Bool) =>
      bif !y2 then
        some false
      else
        (k25 rb d1 d2 0).bind fun (z3 : (XC × XC × Bool) ⊕ (XC × XC)) =>
        match z3 with
        | .inl u4 =>
          some u4.2.2
        | .inr w5 =>
          some true
theorem er23 (rf : T.RF) (rb : T.RB) (d1 : XC) (d2 : XC) : T.stepF rf rb 23 (d1, d2) = r23 rf rb d1 d2 := by kernel_rfl
theorem or23 {d1 : XC} {d2 : XC} {y : Bool} (h : r23 T.rf T.rb d1 d2 = some y) : c23 T.rf d1 d2 = some y := T.rf_of (f := 23) (d := (d1, d2)) ((er23 T.rf T.rb d1 d2).trans h)

/- bailmentlaw17.live -/
noncomputable def r2 (rf : T.RF) (rb : T.RB) : Option Bool :=
  (c3 rf ([(3, 0, 0, 0, 0, 0), (1, 0, 0, 0, 0, (-300))], 1, 0, [0], [2])).bind fun (y1 : List UInt8 × Int) =>
  (c14 rf y1.1).bind fun (y2 : XC × Int) =>
  bif inb' (if 0 > (IntKind.i64.wrap ((((y1.1.length : Nat) : Int)) - 1)) then 0 else (IntKind.i64.wrap ((((y1.1.length : Nat) : Int)) - 1))) y1.1.length then
    (c14 rf (sub y1.1 (some (0, ((if 0 > (IntKind.i64.wrap ((((y1.1.length : Nat) : Int)) - 1)) then 0 else (IntKind.i64.wrap ((((y1.1.length : Nat) : Int)) - 1))).toNat - 0))))).bind fun (y3 : XC × Int) =>
    (c14 rf ([66, 65, 73, 88] : List UInt8)).bind fun (y4 : XC × Int) =>
    (c3 rf ([], 0, 0, [], [])).bind fun (y5 : List UInt8 × Int) =>
    (c3 rf ([], 0, 0, [0], [])).bind fun (y6 : List UInt8 × Int) =>
    bif y1.1 == ([66, 65, 73, 76, 1, 0, 1, 2, 2, 3, 0, 0, 1, 0, 215, 4, 1, 0] : List UInt8) then
      bif y1.2 == 0 then
        (c22 rf y2.1).bind fun (y7 : XC) =>
        (c22 rf ([(3, 0, 0, 0, 0, 0), (1, 0, 0, 0, 0, (-300))], 1, 0, [0], [2])).bind fun (y8 : XC) =>
        (c23 rf y7 y8).bind fun (y9 : Bool) =>
        bif y9 then
          bif y2.2 == 0 then
            bif y3.2 == 16 then
              bif y4.2 == 15 then
                bif y5.1 == ([66, 65, 73, 76, 0, 0, 0, 0, 0] : List UInt8) then
                  bif y5.2 == 0 then
                    some (y6.2 == 1)
                  else
                    some false
                else
                  some false
              else
                some false
            else
              some false
          else
            some false
        else
          some false
      else
        some false
    else
      some false
  else
    none
theorem er2 (rf : T.RF) (rb : T.RB) : T.stepF rf rb 2 () = r2 rf rb := by kernel_rfl
theorem or2 {y : Bool} (h : r2 T.rf T.rb = some y) : c2 T.rf = some y := T.rf_of (f := 2) (d := ()) ((er2 T.rf T.rb).trans h)

/- bailmentlaw16.Own loop 0 -/
noncomputable def b27 (rf : T.RF) (rb : T.RB) (d1 : XC) (d2 : Int) (d3 : Int) (d4 : List Int) (d5 : List Int) (d6 : List XI) (d7 : Int) : Option (XC × Int × Int × List Int × List Int × List XI) :=
  bif decide (d7 < (((d1.1.length : Nat) : Int))) then
    bif inb d7 d1.1.length then
      (nth d1.1 d7.toNat).bind fun (x1 : XI) =>
      bif (Nat.ble (d6.length + 1) most) && true then
        k27 rb d1 d2 d3 d4 d5 (d6 ++ [x1]) (IntKind.i64.wrap (d7 + 1))
      else
        none
    else
      none
  else
    some (d1, d2, d3, d4, d5, d6)
theorem eb27 (rf : T.RF) (rb : T.RB) (d1 : XC) (d2 : Int) (d3 : Int) (d4 : List Int) (d5 : List Int) (d6 : List XI) (d7 : Int) : T.stepB rf rb 27 (d1, d2, d3, d4, d5, d6, d7) = b27 rf rb d1 d2 d3 d4 d5 d6 d7 := by kernel_rfl
theorem ob27 {d1 : XC} {d2 : Int} {d3 : Int} {d4 : List Int} {d5 : List Int} {d6 : List XI} {d7 : Int} {y : (XC × Int × Int × List Int × List Int × List XI)} (h : b27 T.rf T.rb d1 d2 d3 d4 d5 d6 d7 = some y) : k27 T.rb d1 d2 d3 d4 d5 d6 d7 = some y := T.rb_of (κ := 27) (d := (d1, d2, d3, d4, d5, d6, d7)) ((eb27 T.rf T.rb d1 d2 d3 d4 d5 d6 d7).trans h)

/- bailmentlaw16.Own -/
noncomputable def r25 (rf : T.RF) (rb : T.RB) (d1 : XC) : Option XC :=
  (k27 rb d1 d1.2.1 d1.2.2.1 d1.2.2.2.1 d1.2.2.2.2 [] 0).bind fun (z1 : XC × Int × Int × List Int × List Int × List XI) =>
  some (z1.2.2.2.2.2, z1.2.1, z1.2.2.1, z1.2.2.2.1, z1.2.2.2.2.1)
theorem er25 (rf : T.RF) (rb : T.RB) (d1 : XC) : T.stepF rf rb 25 d1 = r25 rf rb d1 := by kernel_rfl
theorem or25 {d1 : XC} {y : XC} (h : r25 T.rf T.rb d1 = some y) : c25 T.rf d1 = some y := T.rf_of (f := 25) (d := d1) ((er25 T.rf T.rb d1).trans h)

/- bailmentref01.Operands -/
noncomputable def r29 (rf : T.RF) (rb : T.RB) (d1 : Int) : Option Int :=
  bif d1 == 4 then
    bif d1 == 4 then
      some 1
    else
    bif d1 == 26 then
      some 3
    else
    bif decide (d1 ≥ 6) then
      bif decide (d1 ≤ 18) then
        some 2
      else
        some (-1)
    else
      some (-1)
  else
  bif d1 == 5 then
    some 1
  else
  bif d1 == 26 then
    some 3
  else
  bif decide (d1 ≥ 6) then
    bif decide (d1 ≤ 18) then
      some 2
    else
      some (-1)
  else
    some (-1)
theorem er29 (rf : T.RF) (rb : T.RB) (d1 : Int) : T.stepF rf rb 29 d1 = r29 rf rb d1 := by kernel_rfl
theorem or29 {d1 : Int} {y : Int} (h : r29 T.rf T.rb d1 = some y) : c29 T.rf d1 = some y := T.rf_of (f := 29) (d := d1) ((er29 T.rf T.rb d1).trans h)

/- bailmentref16.Reads -/
noncomputable def r28 (rf : T.RF) (rb : T.RB) (d1 : XI) : Option (List Int × Bool) :=
  bif d1.1 == 3 then
    bif d1.1 == 3 then
      some ([], true)
    else
    bif d1.1 == 30 then
      some ([d1.2.2.1], true)
    else
    bif d1.1 == 19 then
      some ([d1.2.2.1, d1.2.2.2.1], true)
    else
      (c29 rf d1.1).bind fun (y1 : Int) =>
      bif decide (y1 < 0) then
        some ([], false)
      else
      bif inb' y1 3 then
        some (sub [d1.2.2.1, d1.2.2.2.1, d1.2.2.2.2.1] (some (0, (y1.toNat - 0))), true)
      else
        none
  else
  bif d1.1 == 1 then
    bif d1.1 == 1 then
      some ([], true)
    else
    bif d1.1 == 30 then
      some ([d1.2.2.1], true)
    else
    bif d1.1 == 19 then
      some ([d1.2.2.1, d1.2.2.2.1], true)
    else
      (c29 rf d1.1).bind fun (y2 : Int) =>
      bif decide (y2 < 0) then
        some ([], false)
      else
      bif inb' y2 3 then
        some (sub [d1.2.2.1, d1.2.2.2.1, d1.2.2.2.2.1] (some (0, (y2.toNat - 0))), true)
      else
        none
  else
  bif d1.1 == 2 then
    bif d1.1 == 2 then
      some ([], true)
    else
    bif d1.1 == 30 then
      some ([d1.2.2.1], true)
    else
    bif d1.1 == 19 then
      some ([d1.2.2.1, d1.2.2.2.1], true)
    else
      (c29 rf d1.1).bind fun (y3 : Int) =>
      bif decide (y3 < 0) then
        some ([], false)
      else
      bif inb' y3 3 then
        some (sub [d1.2.2.1, d1.2.2.2.1, d1.2.2.2.2.1] (some (0, (y3.toNat - 0))), true)
      else
        none
  else
  bif d1.1 == 21 then
    some ([], true)
  else
  bif d1.1 == 30 then
    some ([d1.2.2.1], true)
  else
  bif d1.1 == 19 then
    some ([d1.2.2.1, d1.2.2.2.1], true)
  else
    (c29 rf d1.1).bind fun (y4 : Int) =>
    bif decide (y4 < 0) then
      some ([], false)
    else
    bif inb' y4 3 then
      some (sub [d1.2.2.1, d1.2.2.2.1, d1.2.2.2.2.1] (some (0, (y4.toNat - 0))), true)
    else
      none
theorem er28 (rf : T.RF) (rb : T.RB) (d1 : XI) : T.stepF rf rb 28 d1 = r28 rf rb d1 := by kernel_rfl
theorem or28 {d1 : XI} {y : (List Int × Bool)} (h : r28 T.rf T.rb d1 = some y) : c28 T.rf d1 = some y := T.rf_of (f := 28) (d := d1) ((er28 T.rf T.rb d1).trans h)

/- bailmentref16.rest -/
noncomputable def r30 (rf : T.RF) (rb : T.RB) (d1 : XI) (d2 : Int) : Option Bool :=
  bif decide (d2 < 1) then
    bif d1.2.2.1 != 0 then
      some false
    else
    bif decide (d2 < 2) then
      bif d1.2.2.2.1 != 0 then
        some false
      else
      bif decide (d2 < 3) then
        bif d1.2.2.2.2.1 != 0 then
          some false
        else
        bif d1.1 == 3 then
          bif d1.1 != 30 then
            some true
          else
            some (d1.2.1 == 0)
        else
        bif d1.1 == 1 then
          bif d1.1 != 30 then
            some true
          else
            some (d1.2.1 == 0)
        else
        bif d1.1 == 2 then
          bif d1.1 != 30 then
            some true
          else
            some (d1.2.1 == 0)
        else
        bif d1.1 == 21 then
          bif d1.1 != 30 then
            some true
          else
            some (d1.2.1 == 0)
        else
        bif d1.1 == 30 then
          bif d1.1 != 30 then
            some true
          else
            some (d1.2.1 == 0)
        else
        bif d1.2.2.2.2.2 == 0 then
          bif d1.1 != 30 then
            some true
          else
            some (d1.2.1 == 0)
        else
          some false
      else
      bif d1.1 == 3 then
        bif d1.1 != 30 then
          some true
        else
          some (d1.2.1 == 0)
      else
      bif d1.1 == 1 then
        bif d1.1 != 30 then
          some true
        else
          some (d1.2.1 == 0)
      else
      bif d1.1 == 2 then
        bif d1.1 != 30 then
          some true
        else
          some (d1.2.1 == 0)
      else
      bif d1.1 == 21 then
        bif d1.1 != 30 then
          some true
        else
          some (d1.2.1 == 0)
      else
      bif d1.1 == 30 then
        bif d1.1 != 30 then
          some true
        else
          some (d1.2.1 == 0)
      else
      bif d1.2.2.2.2.2 == 0 then
        bif d1.1 != 30 then
          some true
        else
          some (d1.2.1 == 0)
      else
        some false
    else
    bif decide (d2 < 3) then
      bif d1.2.2.2.2.1 != 0 then
        some false
      else
      bif d1.1 == 3 then
        bif d1.1 != 30 then
          some true
        else
          some (d1.2.1 == 0)
      else
      bif d1.1 == 1 then
        bif d1.1 != 30 then
          some true
        else
          some (d1.2.1 == 0)
      else
      bif d1.1 == 2 then
        bif d1.1 != 30 then
          some true
        else
          some (d1.2.1 == 0)
      else
      bif d1.1 == 21 then
        bif d1.1 != 30 then
          some true
        else
          some (d1.2.1 == 0)
      else
      bif d1.1 == 30 then
        bif d1.1 != 30 then
          some true
        else
          some (d1.2.1 == 0)
      else
      bif d1.2.2.2.2.2 == 0 then
        bif d1.1 != 30 then
          some true
        else
          some (d1.2.1 == 0)
      else
        some false
    else
    bif d1.1 == 3 then
      bif d1.1 != 30 then
        some true
      else
        some (d1.2.1 == 0)
    else
    bif d1.1 == 1 then
      bif d1.1 != 30 then
        some true
      else
        some (d1.2.1 == 0)
    else
    bif d1.1 == 2 then
      bif d1.1 != 30 then
        some true
      else
        some (d1.2.1 == 0)
    else
    bif d1.1 == 21 then
      bif d1.1 != 30 then
        some true
      else
        some (d1.2.1 == 0)
    else
    bif d1.1 == 30 then
      bif d1.1 != 30 then
        some true
      else
        some (d1.2.1 == 0)
    else
    bif d1.2.2.2.2.2 == 0 then
      bif d1.1 != 30 then
        some true
      else
        some (d1.2.1 == 0)
    else
      some false
  else
  bif decide (d2 < 2) then
    bif d1.2.2.2.1 != 0 then
      some false
    else
    bif decide (d2 < 3) then
      bif d1.2.2.2.2.1 != 0 then
        some false
      else
      bif d1.1 == 3 then
        bif d1.1 != 30 then
          some true
        else
          some (d1.2.1 == 0)
      else
      bif d1.1 == 1 then
        bif d1.1 != 30 then
          some true
        else
          some (d1.2.1 == 0)
      else
      bif d1.1 == 2 then
        bif d1.1 != 30 then
          some true
        else
          some (d1.2.1 == 0)
      else
      bif d1.1 == 21 then
        bif d1.1 != 30 then
          some true
        else
          some (d1.2.1 == 0)
      else
      bif d1.1 == 30 then
        bif d1.1 != 30 then
          some true
        else
          some (d1.2.1 == 0)
      else
      bif d1.2.2.2.2.2 == 0 then
        bif d1.1 != 30 then
          some true
        else
          some (d1.2.1 == 0)
      else
        some false
    else
    bif d1.1 == 3 then
      bif d1.1 != 30 then
        some true
      else
        some (d1.2.1 == 0)
    else
    bif d1.1 == 1 then
      bif d1.1 != 30 then
        some true
      else
        some (d1.2.1 == 0)
    else
    bif d1.1 == 2 then
      bif d1.1 != 30 then
        some true
      else
        some (d1.2.1 == 0)
    else
    bif d1.1 == 21 then
      bif d1.1 != 30 then
        some true
      else
        some (d1.2.1 == 0)
    else
    bif d1.1 == 30 then
      bif d1.1 != 30 then
        some true
      else
        some (d1.2.1 == 0)
    else
    bif d1.2.2.2.2.2 == 0 then
      bif d1.1 != 30 then
        some true
      else
        some (d1.2.1 == 0)
    else
      some false
  else
  bif decide (d2 < 3) then
    bif d1.2.2.2.2.1 != 0 then
      some false
    else
    bif d1.1 == 3 then
      bif d1.1 != 30 then
        some true
      else
        some (d1.2.1 == 0)
    else
    bif d1.1 == 1 then
      bif d1.1 != 30 then
        some true
      else
        some (d1.2.1 == 0)
    else
    bif d1.1 == 2 then
      bif d1.1 != 30 then
        some true
      else
        some (d1.2.1 == 0)
    else
    bif d1.1 == 21 then
      bif d1.1 != 30 then
        some true
      else
        some (d1.2.1 == 0)
    else
    bif d1.1 == 30 then
      bif d1.1 != 30 then
        some true
      else
        some (d1.2.1 == 0)
    else
    bif d1.2.2.2.2.2 == 0 then
      bif d1.1 != 30 then
        some true
      else
        some (d1.2.1 == 0)
    else
      some false
  else
  bif d1.1 == 3 then
    bif d1.1 != 30 then
      some true
    else
      some (d1.2.1 == 0)
  else
  bif d1.1 == 1 then
    bif d1.1 != 30 then
      some true
    else
      some (d1.2.1 == 0)
  else
  bif d1.1 == 2 then
    bif d1.1 != 30 then
      some true
    else
      some (d1.2.1 == 0)
  else
  bif d1.1 == 21 then
    bif d1.1 != 30 then
      some true
    else
      some (d1.2.1 == 0)
  else
  bif d1.1 == 30 then
    bif d1.1 != 30 then
      some true
    else
      some (d1.2.1 == 0)
  else
  bif d1.2.2.2.2.2 == 0 then
    bif d1.1 != 30 then
      some true
    else
      some (d1.2.1 == 0)
  else
    some false
theorem er30 (rf : T.RF) (rb : T.RB) (d1 : XI) (d2 : Int) : T.stepF rf rb 30 (d1, d2) = r30 rf rb d1 d2 := by kernel_rfl
theorem or30 {d1 : XI} {d2 : Int} {y : Bool} (h : r30 T.rf T.rb d1 d2 = some y) : c30 T.rf d1 d2 = some y := T.rf_of (f := 30) (d := (d1, d2)) ((er30 T.rf T.rb d1 d2).trans h)

/- bailmentref01.Fits -/
noncomputable def r32 (rf : T.RF) (rb : T.RB) (d1 : Int) : Option Bool :=
  bif decide (d1 ≥ (-2147483648)) then
    some (decide (d1 ≤ 2147483647))
  else
    some false
theorem er32 (rf : T.RF) (rb : T.RB) (d1 : Int) : T.stepF rf rb 32 d1 = r32 rf rb d1 := by kernel_rfl
theorem or32 {d1 : Int} {y : Bool} (h : r32 T.rf T.rb d1 = some y) : c32 T.rf d1 = some y := T.rf_of (f := 32) (d := d1) ((er32 T.rf T.rb d1).trans h)

/- bailmentref16.number -/
noncomputable def r31 (rf : T.RF) (rb : T.RB) (d1 : XC) (d2 : XI) : Option Bool :=
  bif d2.1 == 3 then
    bif decide (d2.2.2.2.2.2 ≥ 0) then
      some (decide (d2.2.2.2.2.2 < (((d1.2.2.2.2.length : Nat) : Int))))
    else
      some false
  else
  bif d2.1 == 1 then
    (c32 rf d2.2.2.2.2.2).bind fun (y1 : Bool) =>
    some y1
  else
  bif d2.1 == 2 then
    bif d2.2.2.2.2.2 == 0 then
      some true
    else
      some (d2.2.2.2.2.2 == 1)
  else
  bif d2.1 == 21 then
    bif d2.1 == 21 then
      bif decide (d2.2.2.2.2.2 ≥ 0) then
        some (decide (d2.2.2.2.2.2 < d1.2.2.1))
      else
        some false
    else
      some true
  else
  bif d2.1 == 30 then
    bif decide (d2.2.2.2.2.2 ≥ 0) then
      some (decide (d2.2.2.2.2.2 < d1.2.2.1))
    else
      some false
  else
    some true
theorem er31 (rf : T.RF) (rb : T.RB) (d1 : XC) (d2 : XI) : T.stepF rf rb 31 (d1, d2) = r31 rf rb d1 d2 := by kernel_rfl
theorem or31 {d1 : XC} {d2 : XI} {y : Bool} (h : r31 T.rf T.rb d1 d2 = some y) : c31 T.rf d1 d2 = some y := T.rf_of (f := 31) (d := (d1, d2)) ((er31 T.rf T.rb d1 d2).trans h)

/- bailmentref16.written -/
noncomputable def r33 (rf : T.RF) (rb : T.RB) (d1 : List Bool) (d2 : Int) : Option (List Bool × Bool) :=
  bif decide (d2 ≥ 0) then
    bif decide (d2 < (((d1.length : Nat) : Int))) then
      bif inb d2 d1.length then
        (nth d1 d2.toNat).bind fun (x1 : Bool) =>
        some (d1, x1)
      else
        none
    else
      some (d1, false)
  else
    some (d1, false)
theorem er33 (rf : T.RF) (rb : T.RB) (d1 : List Bool) (d2 : Int) : T.stepF rf rb 33 (d1, d2) = r33 rf rb d1 d2 := by kernel_rfl
theorem or33 {d1 : List Bool} {d2 : Int} {y : (List Bool × Bool)} (h : r33 T.rf T.rb d1 d2 = some y) : c33 T.rf d1 d2 = some y := T.rf_of (f := 33) (d := (d1, d2)) ((er33 T.rf T.rb d1 d2).trans h)

/- bailmentref16.Check loop 0 -/
noncomputable def b28 (rf : T.RF) (rb : T.RB) (d1 : XC) (d2 : List Bool) (d3 : List Bool) (d4 : Bool) (d5 : Int) : Option ((XC × List Bool × List Bool × Int) ⊕ (XC × List Bool × List Bool)) :=
  bif decide (d5 < (((d1.1.length : Nat) : Int))) then
    bif inb d5 d1.1.length then
      (nth d1.1 d5.toNat).bind fun (x1 : XI) =>
      (c28 rf x1).bind fun (y2 : List Int × Bool) =>
      bif !y2.2 then
        some (.inl (d1, d2, d3, 1))
      else
        (c30 rf x1 (((y2.1.length : Nat) : Int))).bind fun (y3 : Bool) =>
        bif !y3 then
          some (.inl (d1, d2, d3, 1))
        else
          (c31 rf d1 x1).bind fun (y4 : Bool) =>
          bif !y4 then
            some (.inl (d1, d2, d3, 1))
          else
            (k29 rb d2 y2.1 0).bind fun (z5 : (List Bool × List Int × Int) ⊕ (List Bool × List Int)) =>
            match z5 with
            | .inl u6 =>
              some (.inl (d1, u6.1, d3, u6.2.2))
            | .inr w7 =>
              bif x1.1 == 30 then
                bif inb x1.2.2.2.2.2 d3.length then
                  (nth d3 x1.2.2.2.2.2.toNat).bind fun (x8 : Bool) =>
                  bif x8 then
                    some (.inl (d1, w7.1, d3, 1))
                  else
                  bif inb x1.2.2.2.2.2 d3.length then
                    bif Nat.blt x1.2.2.2.2.2.toNat d3.length then
                      k28 rb d1 w7.1 (setNth d3 x1.2.2.2.2.2.toNat true) true (IntKind.i64.wrap (d5 + 1))
                    else
                      none
                  else
                    none
                else
                  none
              else
              bif x1.1 == 21 then
                bif d4 then
                  some (.inl (d1, w7.1, d3, 1))
                else
                bif decide (x1.2.1 < 0) then
                  some (.inl (d1, w7.1, d3, 1))
                else
                bif decide (x1.2.1 ≥ d1.2.1) then
                  some (.inl (d1, w7.1, d3, 1))
                else
                bif inb x1.2.1 w7.1.length then
                  bif Nat.blt x1.2.1.toNat w7.1.length then
                    k28 rb d1 (setNth w7.1 x1.2.1.toNat true) d3 d4 (IntKind.i64.wrap (d5 + 1))
                  else
                    none
                else
                  none
              else
              bif decide (x1.2.1 < 0) then
                some (.inl (d1, w7.1, d3, 1))
              else
              bif decide (x1.2.1 ≥ d1.2.1) then
                some (.inl (d1, w7.1, d3, 1))
              else
              bif inb x1.2.1 w7.1.length then
                bif Nat.blt x1.2.1.toNat w7.1.length then
                  k28 rb d1 (setNth w7.1 x1.2.1.toNat true) d3 d4 (IntKind.i64.wrap (d5 + 1))
                else
                  none
              else
                none
    else
      none
  else
    some (.inr (d1, d2, d3))
theorem eb28 (rf : T.RF) (rb : T.RB) (d1 : XC) (d2 : List Bool) (d3 : List Bool) (d4 : Bool) (d5 : Int) : T.stepB rf rb 28 (d1, d2, d3, d4, d5) = b28 rf rb d1 d2 d3 d4 d5 := by kernel_rfl
theorem ob28 {d1 : XC} {d2 : List Bool} {d3 : List Bool} {d4 : Bool} {d5 : Int} {y : ((XC × List Bool × List Bool × Int) ⊕ (XC × List Bool × List Bool))} (h : b28 T.rf T.rb d1 d2 d3 d4 d5 = some y) : k28 T.rb d1 d2 d3 d4 d5 = some y := T.rb_of (κ := 28) (d := (d1, d2, d3, d4, d5)) ((eb28 T.rf T.rb d1 d2 d3 d4 d5).trans h)

/- bailmentref16.Check loop 2 -/
noncomputable def b29 (rf : T.RF) (rb : T.RB) (d1 : List Bool) (d2 : List Int) (d3 : Int) : Option ((List Bool × List Int × Int) ⊕ (List Bool × List Int)) :=
  bif decide (d3 < (((d2.length : Nat) : Int))) then
    bif inb d3 d2.length then
      (nth d2 d3.toNat).bind fun (x1 : Int) =>
      (c33 rf d1 x1).bind fun (y2 : List Bool × Bool) =>
      bif !y2.2 then
        some (.inl (y2.1, d2, 1))
      else
        k29 rb y2.1 d2 (IntKind.i64.wrap (d3 + 1))
    else
      none
  else
    some (.inr (d1, d2))
theorem eb29 (rf : T.RF) (rb : T.RB) (d1 : List Bool) (d2 : List Int) (d3 : Int) : T.stepB rf rb 29 (d1, d2, d3) = b29 rf rb d1 d2 d3 := by kernel_rfl
theorem ob29 {d1 : List Bool} {d2 : List Int} {d3 : Int} {y : ((List Bool × List Int × Int) ⊕ (List Bool × List Int))} (h : b29 T.rf T.rb d1 d2 d3 = some y) : k29 T.rb d1 d2 d3 = some y := T.rb_of (κ := 29) (d := (d1, d2, d3)) ((eb29 T.rf T.rb d1 d2 d3).trans h)

/- bailmentref16.Check loop 4 -/
noncomputable def b30 (rf : T.RF) (rb : T.RB) (d1 : XC) (d2 : List Bool) (d3 : Int) : Option ((XC × List Bool × Int) ⊕ (XC × List Bool)) :=
  bif decide (d3 < (((d1.2.2.2.1.length : Nat) : Int))) then
    bif inb d3 d1.2.2.2.1.length then
      (nth d1.2.2.2.1 d3.toNat).bind fun (x1 : Int) =>
      (c33 rf d2 x1).bind fun (y2 : List Bool × Bool) =>
      bif !y2.2 then
        some (.inl (d1, y2.1, 1))
      else
        k30 rb d1 y2.1 (IntKind.i64.wrap (d3 + 1))
    else
      none
  else
    some (.inr (d1, d2))
theorem eb30 (rf : T.RF) (rb : T.RB) (d1 : XC) (d2 : List Bool) (d3 : Int) : T.stepB rf rb 30 (d1, d2, d3) = b30 rf rb d1 d2 d3 := by kernel_rfl
theorem ob30 {d1 : XC} {d2 : List Bool} {d3 : Int} {y : ((XC × List Bool × Int) ⊕ (XC × List Bool))} (h : b30 T.rf T.rb d1 d2 d3 = some y) : k30 T.rb d1 d2 d3 = some y := T.rb_of (κ := 30) (d := (d1, d2, d3)) ((eb30 T.rf T.rb d1 d2 d3).trans h)

/- bailmentref16.Check -/
noncomputable def r27 (rf : T.RF) (rb : T.RB) (d1 : XC) : Option Int :=
  bif decide (d1.2.1 < 0) then
    some 1
  else
  bif decide (d1.2.1 > 100000) then
    some 1
  else
  bif decide (d1.2.2.1 < 0) then
    some 1
  else
  bif decide (d1.2.2.1 > 100000) then
    some 1
  else
  bif decide ((((d1.1.length : Nat) : Int)) > 200000) then
    some 1
  else
  bif inb' d1.2.1 most then
    bif inb' d1.2.1 d1.2.1.toNat then
      bif inb' d1.2.2.1 most then
        bif inb' d1.2.2.1 d1.2.2.1.toNat then
          (k28 rb d1 (List.replicate d1.2.1.toNat false) (List.replicate d1.2.2.1.toNat false) false 0).bind fun (z1 : (XC × List Bool × List Bool × Int) ⊕ (XC × List Bool × List Bool)) =>
          match z1 with
          | .inl u2 =>
            some u2.2.2.2
          | .inr w3 =>
            (k30 rb w3.1 w3.2.1 0).bind fun (z4 : (XC × List Bool × Int) ⊕ (XC × List Bool)) =>
            match z4 with
            | .inl u5 =>
              some u5.2.2
            | .inr w6 =>
              some 0
        else
          none
      else
        none
    else
      none
  else
    none
theorem er27 (rf : T.RF) (rb : T.RB) (d1 : XC) : T.stepF rf rb 27 d1 = r27 rf rb d1 := by kernel_rfl
theorem or27 {d1 : XC} {y : Int} (h : r27 T.rf T.rb d1 = some y) : c27 T.rf d1 = some y := T.rf_of (f := 27) (d := d1) ((er27 T.rf T.rb d1).trans h)

/- bailmentref17.Number -/
noncomputable def r34q (rf : T.RF) (rb : T.RB) (d1 : Int) : Option (List UInt8) :=
  bif decide (d1 < 128) then
    some (strOf [IntKind.u8.wrap d1])
  else
    agree (
      agN 1 (
        (c34 rf (IntKind.i64.wrap (Int.tdiv d1 128))).bind fun (y1 : List UInt8) =>
        bif Nat.ble ((strOf [IntKind.u8.wrap (IntKind.i64.wrap ((Int.tmod d1 128) + 128))]).length + y1.length) most then
          some ((strOf [IntKind.u8.wrap (IntKind.i64.wrap ((Int.tmod d1 128) + 128))]) ++ y1)
        else
          none
      )
    ) (
      (c34 rf (IntKind.i64.wrap (Int.tdiv d1 128))).bind fun (y1 : List UInt8) =>
      bif Nat.ble ((strOf [IntKind.u8.wrap (IntKind.i64.wrap ((Int.tmod d1 128) + 128))]).length + y1.length) most then
        some ((strOf [IntKind.u8.wrap (IntKind.i64.wrap ((Int.tmod d1 128) + 128))]) ++ y1)
      else
        none
    )
noncomputable def r34 (rf : T.RF) (rb : T.RB) (d1 : Int) : Option (List UInt8) :=
  bif decide (d1 < 128) then
    some (strOf [IntKind.u8.wrap d1])
  else
    (c34 rf (IntKind.i64.wrap (Int.tdiv d1 128))).bind fun (y1 : List UInt8) =>
    bif Nat.ble ((strOf [IntKind.u8.wrap (IntKind.i64.wrap ((Int.tmod d1 128) + 128))]).length + y1.length) most then
      some ((strOf [IntKind.u8.wrap (IntKind.i64.wrap ((Int.tmod d1 128) + 128))]) ++ y1)
    else
      none
theorem er34 (rf : T.RF) (rb : T.RB) (d1 : Int) : T.stepF rf rb 34 d1 = r34q rf rb d1 := by kernel_rfl
theorem sr34 (rf : T.RF) (rb : T.RB) (d1 : Int) : r34q rf rb d1 = r34 rf rb d1 := by
  unfold r34q r34; simp only [agN_eq, agree_self, agree_swap]
theorem or34 {d1 : Int} {y : (List UInt8)} (h : r34 T.rf T.rb d1 = some y) : c34 T.rf d1 = some y := T.rf_of (f := 34) (d := d1) (((er34 T.rf T.rb d1).trans (sr34 T.rf T.rb d1)).trans h)

/- bailmentref17.list loop 0 -/
noncomputable def b32 (rf : T.RF) (rb : T.RB) (d1 : List Int) (d2 : List UInt8) (d3 : Int) : Option (List UInt8) :=
  bif decide (d3 < (((d1.length : Nat) : Int))) then
    bif inb d3 d1.length then
      (nth d1 d3.toNat).bind fun (x1 : Int) =>
      (c34 rf x1).bind fun (y2 : List UInt8) =>
      bif Nat.ble (d2.length + y2.length) most then
        k32 rb d1 (d2 ++ y2) (IntKind.i64.wrap (d3 + 1))
      else
        none
    else
      none
  else
    some d2
theorem eb32 (rf : T.RF) (rb : T.RB) (d1 : List Int) (d2 : List UInt8) (d3 : Int) : T.stepB rf rb 32 (d1, d2, d3) = b32 rf rb d1 d2 d3 := by kernel_rfl
theorem ob32 {d1 : List Int} {d2 : List UInt8} {d3 : Int} {y : (List UInt8)} (h : b32 T.rf T.rb d1 d2 d3 = some y) : k32 T.rb d1 d2 d3 = some y := T.rb_of (κ := 32) (d := (d1, d2, d3)) ((eb32 T.rf T.rb d1 d2 d3).trans h)

/- bailmentref17.list -/
noncomputable def r35 (rf : T.RF) (rb : T.RB) (d1 : List Int) : Option (List UInt8) :=
  (c34 rf (((d1.length : Nat) : Int))).bind fun (y1 : List UInt8) =>
  (k32 rb d1 y1 0).bind fun (z2 : List UInt8) =>
  some z2
theorem er35 (rf : T.RF) (rb : T.RB) (d1 : List Int) : T.stepF rf rb 35 d1 = r35 rf rb d1 := by kernel_rfl
theorem or35 {d1 : List Int} {y : (List UInt8)} (h : r35 T.rf T.rb d1 = some y) : c35 T.rf d1 = some y := T.rf_of (f := 35) (d := d1) ((er35 T.rf T.rb d1).trans h)

/- bailmentref17.hasN -/
noncomputable def r36 (rf : T.RF) (rb : T.RB) (d1 : Int) : Option Bool :=
  bif d1 == 3 then
    some true
  else
  bif d1 == 1 then
    some true
  else
  bif d1 == 2 then
    some true
  else
  bif d1 == 21 then
    some true
  else
    some (d1 == 30)
theorem er36 (rf : T.RF) (rb : T.RB) (d1 : Int) : T.stepF rf rb 36 d1 = r36 rf rb d1 := by kernel_rfl
theorem or36 {d1 : Int} {y : Bool} (h : r36 T.rf T.rb d1 = some y) : c36 T.rf d1 = some y := T.rf_of (f := 36) (d := d1) ((er36 T.rf T.rb d1).trans h)

/- bailmentref17.signed -/
noncomputable def r37 (rf : T.RF) (rb : T.RB) (d1 : Int) : Option Int :=
  bif decide (d1 ≥ 0) then
    some (IntKind.i64.wrap (2 * d1))
  else
    some (IntKind.i64.wrap ((IntKind.i64.wrap ((-2) * d1)) - 1))
theorem er37 (rf : T.RF) (rb : T.RB) (d1 : Int) : T.stepF rf rb 37 d1 = r37 rf rb d1 := by kernel_rfl
theorem or37 {d1 : Int} {y : Int} (h : r37 T.rf T.rb d1 = some y) : c37 T.rf d1 = some y := T.rf_of (f := 37) (d := d1) ((er37 T.rf T.rb d1).trans h)

/- bailmentref17.Encode loop 0 -/
noncomputable def b31 (rf : T.RF) (rb : T.RB) (d1 : XC) (d2 : Int) : Option ((XC × List UInt8 × Int) ⊕ XC) :=
  bif decide (d2 < (((d1.2.2.2.2.length : Nat) : Int))) then
    bif inb d2 d1.2.2.2.2.length then
      (nth d1.2.2.2.2 d2.toNat).bind fun (x1 : Int) =>
      bif decide (x1 < 0) then
        some (.inl (d1, ([] : List UInt8), 1))
      else
      bif inb d2 d1.2.2.2.2.length then
        (nth d1.2.2.2.2 d2.toNat).bind fun (x2 : Int) =>
        bif decide (x2 > 4294967295) then
          some (.inl (d1, ([] : List UInt8), 1))
        else
          k31 rb d1 (IntKind.i64.wrap (d2 + 1))
      else
        none
    else
      none
  else
    some (.inr d1)
theorem eb31 (rf : T.RF) (rb : T.RB) (d1 : XC) (d2 : Int) : T.stepB rf rb 31 (d1, d2) = b31 rf rb d1 d2 := by kernel_rfl
theorem ob31 {d1 : XC} {d2 : Int} {y : ((XC × List UInt8 × Int) ⊕ XC)} (h : b31 T.rf T.rb d1 d2 = some y) : k31 T.rb d1 d2 = some y := T.rb_of (κ := 31) (d := (d1, d2)) ((eb31 T.rf T.rb d1 d2).trans h)

/- bailmentref17.Encode loop 2 -/
noncomputable def b33 (rf : T.RF) (rb : T.RB) (d1 : XC) (d2 : List UInt8) (d3 : Int) : Option (XC × List UInt8) :=
  bif decide (d3 < (((d1.1.length : Nat) : Int))) then
    bif inb d3 d1.1.length then
      (nth d1.1 d3.toNat).bind fun (x1 : XI) =>
      (c34 rf x1.1).bind fun (y2 : List UInt8) =>
      bif Nat.ble (d2.length + y2.length) most then
        bif x1.1 != 30 then
          (c34 rf x1.2.1).bind fun (y3 : List UInt8) =>
          bif Nat.ble ((d2 ++ y2).length + y3.length) most then
            (k34 rb x1 ((d2 ++ y2) ++ y3)).bind fun (z4 : XI × List UInt8) =>
            k33 rb d1 z4.2 (IntKind.i64.wrap (d3 + 1))
          else
            none
        else
          (k34 rb x1 (d2 ++ y2)).bind fun (z5 : XI × List UInt8) =>
          k33 rb d1 z5.2 (IntKind.i64.wrap (d3 + 1))
      else
        none
    else
      none
  else
    some (d1, d2)
theorem eb33 (rf : T.RF) (rb : T.RB) (d1 : XC) (d2 : List UInt8) (d3 : Int) : T.stepB rf rb 33 (d1, d2, d3) = b33 rf rb d1 d2 d3 := by kernel_rfl
theorem ob33 {d1 : XC} {d2 : List UInt8} {d3 : Int} {y : (XC × List UInt8)} (h : b33 T.rf T.rb d1 d2 d3 = some y) : k33 T.rb d1 d2 d3 = some y := T.rb_of (κ := 33) (d := (d1, d2, d3)) ((eb33 T.rf T.rb d1 d2 d3).trans h)

/- bailmentref17.Encode tail 16 -/
noncomputable def b34 (rf : T.RF) (rb : T.RB) (d1 : XI) (d2 : List UInt8) : Option (XI × List UInt8) :=
  (c28 rf d1).bind fun (y1 : List Int × Bool) =>
  (k35 rb y1.1 d2 0).bind fun (z2 : List Int × List UInt8) =>
  (c36 rf d1.1).bind fun (y3 : Bool) =>
  bif y3 then
    (c37 rf d1.2.2.2.2.2).bind fun (y4 : Int) =>
    (c34 rf y4).bind fun (y5 : List UInt8) =>
    bif Nat.ble (z2.2.length + y5.length) most then
      some (d1, z2.2 ++ y5)
    else
      none
  else
    some (d1, z2.2)
theorem eb34 (rf : T.RF) (rb : T.RB) (d1 : XI) (d2 : List UInt8) : T.stepB rf rb 34 (d1, d2) = b34 rf rb d1 d2 := by kernel_rfl
theorem ob34 {d1 : XI} {d2 : List UInt8} {y : (XI × List UInt8)} (h : b34 T.rf T.rb d1 d2 = some y) : k34 T.rb d1 d2 = some y := T.rb_of (κ := 34) (d := (d1, d2)) ((eb34 T.rf T.rb d1 d2).trans h)

/- bailmentref17.Encode loop 4 -/
noncomputable def b35 (rf : T.RF) (rb : T.RB) (d1 : List Int) (d2 : List UInt8) (d3 : Int) : Option (List Int × List UInt8) :=
  bif decide (d3 < (((d1.length : Nat) : Int))) then
    bif inb d3 d1.length then
      (nth d1 d3.toNat).bind fun (x1 : Int) =>
      (c34 rf x1).bind fun (y2 : List UInt8) =>
      bif Nat.ble (d2.length + y2.length) most then
        k35 rb d1 (d2 ++ y2) (IntKind.i64.wrap (d3 + 1))
      else
        none
    else
      none
  else
    some (d1, d2)
theorem eb35 (rf : T.RF) (rb : T.RB) (d1 : List Int) (d2 : List UInt8) (d3 : Int) : T.stepB rf rb 35 (d1, d2, d3) = b35 rf rb d1 d2 d3 := by kernel_rfl
theorem ob35 {d1 : List Int} {d2 : List UInt8} {d3 : Int} {y : (List Int × List UInt8)} (h : b35 T.rf T.rb d1 d2 d3 = some y) : k35 T.rb d1 d2 d3 = some y := T.rb_of (κ := 35) (d := (d1, d2, d3)) ((eb35 T.rf T.rb d1 d2 d3).trans h)

/- bailmentref17.Encode -/
noncomputable def r26 (rf : T.RF) (rb : T.RB) (d1 : XC) : Option (List UInt8 × Int) :=
  (c27 rf d1).bind fun (y1 : Int) =>
  bif y1 != 0 then
    some (([] : List UInt8), 1)
  else
    (k31 rb d1 0).bind fun (z2 : (XC × List UInt8 × Int) ⊕ XC) =>
    match z2 with
    | .inl u3 =>
      some u3.2
    | .inr w4 =>
      (c34 rf w4.2.1).bind fun (y5 : List UInt8) =>
      bif Nat.ble (4 + y5.length) most then
        (c34 rf w4.2.2.1).bind fun (y6 : List UInt8) =>
        bif Nat.ble ((([66, 65, 73, 76] : List UInt8) ++ y5).length + y6.length) most then
          (c35 rf w4.2.2.2.2).bind fun (y7 : List UInt8) =>
          bif Nat.ble (((([66, 65, 73, 76] : List UInt8) ++ y5) ++ y6).length + y7.length) most then
            (c34 rf (((w4.1.length : Nat) : Int))).bind fun (y8 : List UInt8) =>
            bif Nat.ble ((((([66, 65, 73, 76] : List UInt8) ++ y5) ++ y6) ++ y7).length + y8.length) most then
              (k33 rb w4 ((((([66, 65, 73, 76] : List UInt8) ++ y5) ++ y6) ++ y7) ++ y8) 0).bind fun (z9 : XC × List UInt8) =>
              (c35 rf z9.1.2.2.2.1).bind fun (y10 : List UInt8) =>
              bif Nat.ble (z9.2.length + y10.length) most then
                some (z9.2 ++ y10, 0)
              else
                none
            else
              none
          else
            none
        else
          none
      else
        none
theorem er26 (rf : T.RF) (rb : T.RB) (d1 : XC) : T.stepF rf rb 26 d1 = r26 rf rb d1 := by kernel_rfl
theorem or26 {d1 : XC} {y : (List UInt8 × Int)} (h : r26 T.rf T.rb d1 = some y) : c26 T.rf d1 = some y := T.rf_of (f := 26) (d := d1) ((er26 T.rf T.rb d1).trans h)

/- bailmentlaw17.ImageWrites -/
noncomputable def r0 (rf : T.RF) (rb : T.RB) (d1 : XC) : Option Bool :=
  (c1 rf d1).bind fun (y1 : Bool) =>
  bif !y1 then
    (c2 rf).bind fun (y2 : Bool) =>
    some y2
  else
    (c25 rf d1).bind fun (y3 : XC) =>
    (c3 rf y3).bind fun (y4 : List UInt8 × Int) =>
    (c26 rf d1).bind fun (y5 : List UInt8 × Int) =>
    bif y4.1 == y5.1 then
      bif y4.2 == y5.2 then
        (c2 rf).bind fun (y6 : Bool) =>
        some y6
      else
        some false
    else
      some false
theorem er0 (rf : T.RF) (rb : T.RB) (d1 : XC) : T.stepF rf rb 0 d1 = r0 rf rb d1 := by kernel_rfl
theorem or0 {d1 : XC} {y : Bool} (h : r0 T.rf T.rb d1 = some y) : c0 T.rf d1 = some y := T.rf_of (f := 0) (d := d1) ((er0 T.rf T.rb d1).trans h)

/- bailmentlaw17.ImageApart -/
noncomputable def r38 (rf : T.RF) (rb : T.RB) (d1 : XC) (d2 : XC) : Option Bool :=
  (c1 rf d1).bind fun (y1 : Bool) =>
  bif !y1 then
    (c2 rf).bind fun (y2 : Bool) =>
    some y2
  else
    (c1 rf d2).bind fun (y3 : Bool) =>
    bif !y3 then
      (c2 rf).bind fun (y4 : Bool) =>
      some y4
    else
      (c25 rf d1).bind fun (y5 : XC) =>
      (c3 rf y5).bind fun (y6 : List UInt8 × Int) =>
      (c25 rf d2).bind fun (y7 : XC) =>
      (c3 rf y7).bind fun (y8 : List UInt8 × Int) =>
      bif y6.2 != 0 then
        (c2 rf).bind fun (y9 : Bool) =>
        some y9
      else
      bif y8.2 != 0 then
        (c2 rf).bind fun (y10 : Bool) =>
        some y10
      else
        (c23 rf d1 d2).bind fun (y11 : Bool) =>
        bif (y6.1 == y8.1) == y11 then
          (c2 rf).bind fun (y12 : Bool) =>
          some y12
        else
          some false
theorem er38 (rf : T.RF) (rb : T.RB) (d1 : XC) (d2 : XC) : T.stepF rf rb 38 (d1, d2) = r38 rf rb d1 d2 := by kernel_rfl
theorem or38 {d1 : XC} {d2 : XC} {y : Bool} (h : r38 T.rf T.rb d1 d2 = some y) : c38 T.rf d1 d2 = some y := T.rf_of (f := 38) (d := (d1, d2)) ((er38 T.rf T.rb d1 d2).trans h)

/- bailmentlaw17.ImageTurned -/
noncomputable def r39 (rf : T.RF) (rb : T.RB) (d1 : XC) (d2 : Int) (d3 : Int) : Option Bool :=
  (c1 rf d1).bind fun (y1 : Bool) =>
  bif !y1 then
    (c2 rf).bind fun (y2 : Bool) =>
    some y2
  else
  bif d3 == 0 then
    (c2 rf).bind fun (y3 : Bool) =>
    some y3
  else
    (c25 rf d1).bind fun (y4 : XC) =>
    (c3 rf y4).bind fun (y5 : List UInt8 × Int) =>
    bif y5.2 != 0 then
      (c2 rf).bind fun (y6 : Bool) =>
      some y6
    else
    bif decide (d2 < 0) then
      (c2 rf).bind fun (y7 : Bool) =>
      some y7
    else
    bif decide (d2 ≥ (((y5.1.length : Nat) : Int))) then
      (c2 rf).bind fun (y8 : Bool) =>
      some y8
    else
    bif inb d2 (bytesOf y5.1).length then
      (nth (bytesOf y5.1) d2.toNat).bind fun (x9 : Int) =>
      bif inb d2 (bytesOf y5.1).length then
        bif Nat.blt d2.toNat (bytesOf y5.1).length then
          (c14 rf (strOf (setNth (bytesOf y5.1) d2.toNat (xorI IntKind.u8 x9 d3)))).bind fun (y10 : XC × Int) =>
          bif y10.2 != 0 then
            (c2 rf).bind fun (y11 : Bool) =>
            some y11
          else
            (c22 rf y10.1).bind fun (y12 : XC) =>
            (c23 rf y12 d1).bind fun (y13 : Bool) =>
            bif !y13 then
              (c2 rf).bind fun (y14 : Bool) =>
              some y14
            else
              some false
        else
          none
      else
        none
    else
      none
theorem er39 (rf : T.RF) (rb : T.RB) (d1 : XC) (d2 : Int) (d3 : Int) : T.stepF rf rb 39 (d1, d2, d3) = r39 rf rb d1 d2 d3 := by kernel_rfl
theorem or39 {d1 : XC} {d2 : Int} {d3 : Int} {y : Bool} (h : r39 T.rf T.rb d1 d2 d3 = some y) : c39 T.rf d1 d2 d3 = some y := T.rf_of (f := 39) (d := (d1, d2, d3)) ((er39 T.rf T.rb d1 d2 d3).trans h)

theorem place_len : tabs.placeL.length = 36 := rfl
end Go.Proofs.Yteifekbmmhpadaa.R
