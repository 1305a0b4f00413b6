/- The types, and what all functions' texts use. Printed by vgen.py. -/
import Derived.Test.YtajddhechcneoaaProg
import Derived.Test.YtajddhechcneoaaVKS
import Derived.Deep.LoopGhost
import Derived.Deep.QuietTactic
import Derived.BigQuiet
import Derived.WalkKit
import Derived.Tactics
import Derived.OwnWalk
import Derived.Laws.Rows
import Derived.WalkSpells
import Derived.Deep.WholeRow
import Derived.LoopTactic
import Derived.Tactics2
import Derived.IntWalk
import Derived.BigFrame
import Derived.Maps.RangeRun
import Derived.OwnWalkIn
import Derived.LoopIn
import Derived.LoopNIn
import Derived.TacticsIn
import Derived.TacticsInMore
import Derived.Shelf.Abstract
import Derived.Maps.AppendAt
import Derived.RangeFuncNested
import Derived.RangeFuncCalls
import Derived.RangeFuncBound
import Derived.RangeFuncLeaves
import Derived.Deep.RegionLaw
import Derived.Laws.MakeOwn
import Derived.Laws.CopyRow
namespace Go.Proofs.Ytajddhechcneoaa.V
open Go Go.RowKit
abbrev T713d : Ty := .pair (.int .i64) (.int .i64)
abbrev Tf9b7 : Ty := .pair (.int .i64) T713d
abbrev Td285 : Ty := .pair (.int .i64) Tf9b7
abbrev Tdd61 : Ty := .pair (.int .i64) (.slice Td285)
abbrev T5477 : Ty := .pair (.int .i64) Tdd61
abbrev T1383 : Ty := .pair T713d Td285
abbrev Td920 : Ty := .pair (.int .i64) Td285
abbrev T70a7 : Ty := .pair Td920 T713d
abbrev T68bd : Ty := .pair (.int .i64) Td920
abbrev Td8a9 : Ty := .pair (.int .i64) T68bd
abbrev T2916 : Ty := .pair (.int .i64) T1383
abbrev Tc550 : Ty := .pair (.int .i64) T2916
abbrev Td08c : Ty := .pair (.int .i64) Tc550
abbrev T4414 : Ty := .pair (.int .i64) Td08c
abbrev T4bf6 : Ty := .pair (.int .i64) (.slice T4414)
abbrev Tb104 : Ty := .pair (.int .i64) T4bf6
abbrev T0b9f : Ty := .pair (.int .i64) Tb104
abbrev T23b6 : Ty := .pair (.int .i64) T0b9f
abbrev T5b41 : Ty := .pair (.slice (.int .i64)) (.int .i64)
abbrev Ta2d3 : Ty := .pair (.slice (.int .i64)) T5b41
abbrev Tac80 : Ty := .pair (.slice T713d) Ta2d3
abbrev Tb553 : Ty := .pair (.slice T23b6) Tac80
abbrev T9002 : Ty := .pair (.slice (.int .i64)) Tb553
abbrev T8366 : Ty := .pair (.int .i64) T9002
abbrev Tc650 : Ty := .pair (.int .i64) T8366
abbrev T7ad9 : Ty := .pair (.int .i64) Tc650
abbrev Td38f : Ty := .pair (.int .i64) T7ad9
abbrev T4bd0 : Ty := .pair (.int .i64) Td38f
abbrev Tb179 : Ty := .pair (.int .i64) T4bd0
abbrev T26b3 : Ty := .pair (.slice (.slice (.slice T1383))) Tb179
abbrev T814c : Ty := .pair (.int .i64) (.slice T1383)
abbrev Tf5fb : Ty := .pair (.slice T814c) (.int .i64)
abbrev T1a38 : Ty := .pair (.int .i64) Tf5fb
abbrev T6398 : Ty := .pair (.int .i64) T1a38
abbrev T6aa8 : Ty := .pair .bool T6398
abbrev Taa0b : Ty := .pair (.int .i64) T6aa8
abbrev Tf20b : Ty := .pair (.int .i64) Taa0b
abbrev Tf9e1 : Ty := .pair .bool (.slice (.int .u8))
abbrev T2b36 : Ty := .pair (.int .i64) Tf9e1
abbrev T0d36 : Ty := .pair (.slice Td8a9) (.int .i64)
abbrev T193b : Ty := .pair (.slice T70a7) T0d36
abbrev Te380 : Ty := .pair (.slice T2b36) T193b
abbrev Tee82 : Ty := .pair (.slice Tf20b) Te380
abbrev T64e3 : Ty := .pair T26b3 Tee82
abbrev Tf5b2 : Ty := .pair .bool (.int .u8)
abbrev T57ec : Ty := .pair (.int .i64) Tf5b2
abbrev T4474 : Ty := .pair (.int .i64) T57ec
noncomputable def tt : TT := [(2, ⟨(some [some .i64]), 1, false, 8, [.int .i64 0], (some (.int .i64)), [], none, none, none, false, false⟩),
  (3, ⟨(some [some .i64]), 1, false, 8, [.int .i64 0], (some (.int .i64)), [], none, none, none, false, false⟩),
  (4, ⟨(some [none]), 1, false, 1, [.bool false], (some .bool), [], none, none, none, false, false⟩),
  (5, ⟨(some [some .u8]), 1, false, 1, [.int .u8 0], (some (.int .u8)), [], none, none, none, false, false⟩),
  (6, ⟨(some [some .u8]), 1, false, 1, [.int .u8 0], (some (.int .u8)), [], none, none, none, false, false⟩),
  (8, ⟨(some [some .i64, some .i64, none, some .u8]), 4, true, 24, [.int .i64 0, .int .i64 0, .bool false, .int .u8 0], (some T4474), [(0, 2), (1, 3), (2, 4), (3, 6)], none, none, none, false, false⟩),
  (22, ⟨none, 1, false, 24, [.nils], (some (.slice Td285)), [], (some 74), none, none, false, false⟩),
  (24, ⟨none, 3, true, 40, [.int .i64 0, .int .i64 0, .nils], (some T5477), [(0, 3), (1, 3), (2, 22)], none, none, none, false, false⟩),
  (26, ⟨none, 1, false, 24, [.nils], (some (.slice (.slice T1383))), [], (some 59), none, none, false, false⟩),
  (28, ⟨(some [some .i64, some .i64, some .i64, some .i64, some .i64]), 5, true, 40, [.int .i64 0, .int .i64 0, .int .i64 0, .int .i64 0, .int .i64 0], (some Td920), [(0, 3), (1, 3), (2, 3), (3, 3), (4, 3)], none, none, none, false, false⟩),
  (30, ⟨(some [some .i64, some .i64, some .i64, some .i64, some .i64, some .i64, some .i64]), 7, true, 56, [.int .i64 0, .int .i64 0, .int .i64 0, .int .i64 0, .int .i64 0, .int .i64 0, .int .i64 0], (some T70a7), [(0, 28), (5, 3), (6, 3)], none, none, none, false, false⟩),
  (31, ⟨none, 1, false, 24, [.nils], (some (.slice Td8a9)), [], (some 41), none, none, false, false⟩),
  (41, ⟨(some [some .i64, some .i64, some .i64, some .i64, some .i64, some .i64, some .i64]), 7, true, 56, [.int .i64 0, .int .i64 0, .int .i64 0, .int .i64 0, .int .i64 0, .int .i64 0, .int .i64 0], (some Td8a9), [(0, 3), (1, 3), (2, 3), (3, 3), (4, 3), (5, 3), (6, 3)], none, none, none, false, false⟩),
  (47, ⟨none, 1, false, 24, [.nils], (some (.slice (.slice (.slice T1383)))), [], (some 26), none, none, false, false⟩),
  (48, ⟨none, 1, false, 24, [.nils], (some (.slice (.int .i64))), [], (some 3), none, none, false, false⟩),
  (49, ⟨none, 1, false, 24, [.nils], (some (.slice T23b6)), [], (some 180), none, none, false, false⟩),
  (50, ⟨none, 1, false, 24, [.nils], (some (.slice T713d)), [], (some 110), none, none, false, false⟩),
  (52, ⟨none, 13, true, 200, [.nils, .int .i64 0, .int .i64 0, .int .i64 0, .int .i64 0, .int .i64 0, .int .i64 0, .nils, .nils, .nils, .nils, .nils, .int .i64 0], (some T26b3), [(0, 47), (1, 3), (2, 3), (3, 3), (4, 3), (5, 3), (6, 3), (7, 48), (8, 49), (9, 50), (10, 48), (11, 48), (12, 3)], none, none, none, false, false⟩),
  (53, ⟨none, 1, false, 24, [.nils], (some (.slice Tf20b)), [], (some 81), none, none, false, false⟩),
  (54, ⟨none, 1, false, 24, [.nils], (some (.slice T2b36)), [], (some 182), none, none, false, false⟩),
  (55, ⟨none, 1, false, 24, [.nils], (some (.slice T70a7)), [], (some 30), none, none, false, false⟩),
  (57, ⟨none, 18, true, 304, [.nils, .int .i64 0, .int .i64 0, .int .i64 0, .int .i64 0, .int .i64 0, .int .i64 0, .nils, .nils, .nils, .nils, .nils, .int .i64 0, .nils, .nils, .nils, .nils, .int .i64 0], (some T64e3), [(0, 52), (13, 53), (14, 54), (15, 55), (16, 31), (17, 3)], none, none, none, false, false⟩),
  (59, ⟨none, 1, false, 24, [.nils], (some (.slice T1383)), [], (some 72), none, none, false, false⟩),
  (68, ⟨(some [some .i64, some .i64]), 2, true, 16, [.int .i64 0, .int .i64 0], (some T713d), [(0, 3), (1, 3)], none, none, none, false, false⟩),
  (70, ⟨(some [some .i64, some .i64]), 2, true, 16, [.int .i64 0, .int .i64 0], (some T713d), [(0, 3), (1, 3)], none, none, none, false, false⟩),
  (72, ⟨(some [some .i64, some .i64, some .i64, some .i64, some .i64, some .i64]), 6, true, 48, [.int .i64 0, .int .i64 0, .int .i64 0, .int .i64 0, .int .i64 0, .int .i64 0], (some T1383), [(0, 70), (2, 3), (3, 3), (4, 68)], none, none, none, false, false⟩),
  (74, ⟨(some [some .i64, some .i64, some .i64, some .i64]), 4, true, 32, [.int .i64 0, .int .i64 0, .int .i64 0, .int .i64 0], (some Td285), [(0, 3), (1, 3), (2, 3), (3, 3)], none, none, none, false, false⟩),
  (76, ⟨none, 2, true, 32, [.int .i64 0, .nils], (some T814c), [(0, 3), (1, 59)], none, none, none, false, false⟩),
  (78, ⟨none, 1, false, 8, [.nilf], none, [], none, none, none, false, false⟩),
  (79, ⟨none, 1, false, 24, [.nils], (some (.slice T814c)), [], (some 76), none, none, false, false⟩),
  (81, ⟨none, 7, true, 72, [.int .i64 0, .int .i64 0, .bool false, .int .i64 0, .int .i64 0, .nils, .int .i64 0], (some Tf20b), [(0, 3), (1, 3), (2, 4), (3, 3), (4, 3), (5, 79), (6, 3)], none, none, none, false, false⟩),
  (85, ⟨none, 1, false, 8, [.nilf], none, [], none, none, none, false, false⟩),
  (94, ⟨(some [some .u64]), 1, false, 8, [.int .u64 0], (some (.int .u64)), [], none, none, none, false, false⟩),
  (95, ⟨none, 1, false, 24, [.nils], (some (.slice (.int .u8))), [], (some 5), none, none, false, false⟩),
  (100, ⟨none, 1, false, 8, [.nilp], none, [], none, none, none, false, false⟩),
  (102, ⟨none, 13, true, 200, [.nils, .int .i64 0, .int .i64 0, .int .i64 0, .int .i64 0, .int .i64 0, .int .i64 0, .nils, .nils, .nils, .nils, .nils, .int .i64 0], (some T26b3), [(0, 52)], none, none, none, false, false⟩),
  (105, ⟨none, 1, false, 8, [.bad], none, [], none, none, (some (108, 108)), false, false⟩),
  (107, ⟨none, 2, true, 16, [.int .i64 0, .int .i64 0], (some T713d), [], none, (some (2, 3)), none, false, false⟩),
  (108, ⟨none, 2, true, 16, [.int .i64 0, .int .i64 0], (some T713d), [], none, (some (2, 3)), none, false, true⟩),
  (110, ⟨(some [some .i64, some .i64]), 2, true, 16, [.int .i64 0, .int .i64 0], (some T713d), [(0, 3), (1, 3)], none, none, none, false, false⟩),
  (119, ⟨(some [some .i64]), 1, false, 8, [.int .i64 0], (some (.int .i64)), [], none, none, none, false, false⟩),
  (122, ⟨none, 1, false, 8, [.nilf], none, [], none, none, none, false, false⟩),
  (125, ⟨none, 1, false, 8, [.nilf], none, [], none, none, none, false, false⟩),
  (129, ⟨(some [some .u32]), 1, false, 4, [.int .u32 0], (some (.int .u32)), [], none, none, none, false, false⟩),
  (132, ⟨(some [some .u64]), 1, false, 8, [.int .u64 0], (some (.int .u64)), [], none, none, none, false, false⟩),
  (139, ⟨none, 1, false, 8, [.nilf], none, [], none, none, none, false, false⟩),
  (149, ⟨(some [some .i64, some .i64, some .i64, some .i64, some .i64, some .i64]), 6, true, 48, [.int .i64 0, .int .i64 0, .int .i64 0, .int .i64 0, .int .i64 0, .int .i64 0], (some T1383), [(0, 70), (2, 3), (3, 3), (4, 68)], none, none, none, false, false⟩),
  (157, ⟨none, 1, false, 24, [.nils], (some (.slice T713d)), [], (some 107), none, none, false, false⟩),
  (176, ⟨none, 1, false, 24, [.nils], (some (.slice T4414)), [], (some 185), none, none, false, false⟩),
  (178, ⟨none, 3, true, 40, [.int .i64 0, .int .i64 0, .nils], (some Tb104), [(0, 3), (1, 3), (2, 176)], none, none, none, false, false⟩),
  (180, ⟨none, 5, true, 56, [.int .i64 0, .int .i64 0, .int .i64 0, .int .i64 0, .nils], (some T23b6), [(0, 3), (1, 3), (2, 178)], none, none, none, false, false⟩),
  (182, ⟨none, 3, true, 40, [.int .i64 0, .bool false, .nils], (some T2b36), [(0, 3), (1, 4), (2, 95)], none, none, none, false, false⟩),
  (185, ⟨(some [some .i64, some .i64, some .i64, some .i64, some .i64, some .i64, some .i64, some .i64, some .i64, some .i64]), 10, true, 80, [.int .i64 0, .int .i64 0, .int .i64 0, .int .i64 0, .int .i64 0, .int .i64 0, .int .i64 0, .int .i64 0, .int .i64 0, .int .i64 0], (some T4414), [(0, 3), (1, 3), (2, 3), (3, 3), (4, 72)], none, none, none, false, false⟩)]
noncomputable abbrev P := Go.Proofs.Try.prog
theorem tt_ck : tt.ck P = true := by kernel_rfl
theorem mixed : P.follows .mixedOrders = true := by kernel_rfl
end Go.Proofs.Ytajddhechcneoaa.V
