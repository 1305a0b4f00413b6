/- The types, and what all functions' texts use. Printed by vgen.py. -/
import Derived.Test.YtkhjemahenkdiaaDoorProg
import Derived.Test.YtkhjemahenkdiaaDoorVKS
namespace Go.Proofs.YtkhjemahenkdiaaDoor.V
open Go Go.RowKit
abbrev T713d : Ty := .pair (.int .i64) (.int .i64)
abbrev Tf9b7 : Ty := .pair (.int .i64) T713d
abbrev Td285 : Ty := .pair (.int .i64) Tf9b7
abbrev Tdd61 : Ty := .pair (.int .i64) (.slice Td285)
abbrev T5477 : Ty := .pair (.int .i64) Tdd61
abbrev T1383 : Ty := .pair T713d Td285
abbrev T2916 : Ty := .pair (.int .i64) T1383
abbrev Tc550 : Ty := .pair (.int .i64) T2916
abbrev Td08c : Ty := .pair (.int .i64) Tc550
abbrev T4414 : Ty := .pair (.int .i64) Td08c
abbrev T88db : Ty := .pair T713d .bool
abbrev Ta655 : Ty := .pair T713d T88db
abbrev T4bf6 : Ty := .pair (.int .i64) (.slice T4414)
abbrev Tb104 : Ty := .pair (.int .i64) T4bf6
abbrev T0b9f : Ty := .pair (.int .i64) Tb104
abbrev T23b6 : Ty := .pair (.int .i64) T0b9f
abbrev T5b41 : Ty := .pair (.slice (.int .i64)) (.int .i64)
abbrev Ta2d3 : Ty := .pair (.slice (.int .i64)) T5b41
abbrev Tac80 : Ty := .pair (.slice T713d) Ta2d3
abbrev Tb553 : Ty := .pair (.slice T23b6) Tac80
abbrev T9002 : Ty := .pair (.slice (.int .i64)) Tb553
abbrev T8366 : Ty := .pair (.int .i64) T9002
abbrev Tc650 : Ty := .pair (.int .i64) T8366
abbrev T7ad9 : Ty := .pair (.int .i64) Tc650
abbrev Td38f : Ty := .pair (.int .i64) T7ad9
abbrev T4bd0 : Ty := .pair (.int .i64) Td38f
abbrev Tb179 : Ty := .pair (.int .i64) T4bd0
abbrev T26b3 : Ty := .pair (.slice (.slice (.slice T1383))) Tb179
abbrev T814c : Ty := .pair (.int .i64) (.slice T1383)
abbrev Tf9e1 : Ty := .pair .bool (.slice (.int .u8))
abbrev T2b36 : Ty := .pair (.int .i64) Tf9e1
abbrev T713b : Ty := .pair Ta655 Ta655
abbrev T3811 : Ty := .pair Ta655 T713b
abbrev Tdba7 : Ty := .pair Ta655 T3811
abbrev T0931 : Ty := .pair Ta655 Tdba7
abbrev Tbbdd : Ty := .pair Ta655 T0931
noncomputable def tt : TT := [(3, ⟨(some [some .i64]), 1, false, 8, [.int .i64 0], (some (.int .i64)), [], none, none, none⟩),
  (4, ⟨(some [none]), 1, false, 1, [.bool false], (some .bool), [], none, none, none⟩),
  (5, ⟨(some [some .u8]), 1, false, 1, [.int .u8 0], (some (.int .u8)), [], none, none, none⟩),
  (22, ⟨none, 1, false, 24, [.nils], (some (.slice (.slice (.slice T1383)))), [], (some 64), none, none⟩),
  (23, ⟨none, 1, false, 24, [.nils], (some (.slice (.int .i64))), [], (some 3), none, none⟩),
  (24, ⟨none, 1, false, 24, [.nils], (some (.slice T23b6)), [], (some 50), none, none⟩),
  (25, ⟨none, 1, false, 24, [.nils], (some (.slice T713d)), [], (some 95), none, none⟩),
  (27, ⟨none, 13, true, 200, [.nils, .int .i64 0, .int .i64 0, .int .i64 0, .int .i64 0, .int .i64 0, .int .i64 0, .nils, .nils, .nils, .nils, .nils, .int .i64 0], (some T26b3), [(0, 22), (1, 3), (2, 3), (3, 3), (4, 3), (5, 3), (6, 3), (7, 23), (8, 24), (9, 25), (10, 23), (11, 23), (12, 3)], none, none, none⟩),
  (30, ⟨none, 1, false, 24, [.nils], (some (.slice (.int .u8))), [], (some 5), none, none⟩),
  (31, ⟨(some [some .i64]), 1, false, 8, [.int .i64 0], (some (.int .i64)), [], none, none, none⟩),
  (35, ⟨(some [some .i64, some .i64]), 2, true, 16, [.int .i64 0, .int .i64 0], (some T713d), [(0, 3), (1, 3)], none, none, none⟩),
  (37, ⟨(some [some .i64, some .i64]), 2, true, 16, [.int .i64 0, .int .i64 0], (some T713d), [(0, 3), (1, 3)], none, none, none⟩),
  (39, ⟨(some [some .i64, some .i64, some .i64, some .i64, some .i64, some .i64]), 6, true, 48, [.int .i64 0, .int .i64 0, .int .i64 0, .int .i64 0, .int .i64 0, .int .i64 0], (some T1383), [(0, 35), (2, 3), (3, 3), (4, 37)], none, none, none⟩),
  (41, ⟨(some [some .i64, some .i64, some .i64, some .i64, some .i64, some .i64, some .i64, some .i64, some .i64, some .i64]), 10, true, 80, [.int .i64 0, .int .i64 0, .int .i64 0, .int .i64 0, .int .i64 0, .int .i64 0, .int .i64 0, .int .i64 0, .int .i64 0, .int .i64 0], (some T4414), [(0, 3), (1, 3), (2, 3), (3, 3), (4, 39)], none, none, none⟩),
  (42, ⟨none, 1, false, 24, [.nils], (some (.slice T814c)), [], (some 54), none, none⟩),
  (46, ⟨none, 1, false, 24, [.nils], (some (.slice T4414)), [], (some 41), none, none⟩),
  (48, ⟨none, 3, true, 40, [.int .i64 0, .int .i64 0, .nils], (some Tb104), [(0, 3), (1, 3), (2, 46)], none, none, none⟩),
  (50, ⟨none, 5, true, 56, [.int .i64 0, .int .i64 0, .int .i64 0, .int .i64 0, .nils], (some T23b6), [(0, 3), (1, 3), (2, 48)], none, none, none⟩),
  (52, ⟨none, 1, false, 24, [.nils], (some (.slice T1383)), [], (some 39), none, none⟩),
  (54, ⟨none, 2, true, 32, [.int .i64 0, .nils], (some T814c), [(0, 3), (1, 52)], none, none, none⟩),
  (60, ⟨none, 1, false, 24, [.nils], (some (.slice Td285)), [], (some 93), none, none⟩),
  (62, ⟨none, 3, true, 40, [.int .i64 0, .int .i64 0, .nils], (some T5477), [(0, 3), (1, 3), (2, 60)], none, none, none⟩),
  (64, ⟨none, 1, false, 24, [.nils], (some (.slice (.slice T1383))), [], (some 52), none, none⟩),
  (68, ⟨none, 1, false, 24, [.nils], (some (.slice T2b36)), [], (some 73), none, none⟩),
  (73, ⟨none, 3, true, 40, [.int .i64 0, .bool false, .nils], (some T2b36), [(0, 3), (1, 4), (2, 30)], none, none, none⟩),
  (76, ⟨(some [some .u64]), 1, false, 8, [.int .u64 0], (some (.int .u64)), [], none, none, none⟩),
  (77, ⟨none, 1, false, 8, [.nilp], none, [], none, none, none⟩),
  (79, ⟨none, 13, true, 200, [.nils, .int .i64 0, .int .i64 0, .int .i64 0, .int .i64 0, .int .i64 0, .int .i64 0, .nils, .nils, .nils, .nils, .nils, .int .i64 0], (some T26b3), [(0, 27)], none, none, none⟩),
  (89, ⟨none, 1, false, 8, [.nilf], none, [], none, none, none⟩),
  (93, ⟨(some [some .i64, some .i64, some .i64, some .i64]), 4, true, 32, [.int .i64 0, .int .i64 0, .int .i64 0, .int .i64 0], (some Td285), [(0, 3), (1, 3), (2, 3), (3, 3)], none, none, none⟩),
  (95, ⟨(some [some .i64, some .i64]), 2, true, 16, [.int .i64 0, .int .i64 0], (some T713d), [(0, 3), (1, 3)], none, none, none⟩),
  (97, ⟨none, 1, false, 8, [.nilf], none, [], none, none, none⟩),
  (99, ⟨none, 1, false, 8, [.nilf], none, [], none, none, none⟩),
  (100, ⟨none, 1, false, 24, [.nils], none, [], (some 99), none, none⟩),
  (103, ⟨(some [some .i64, some .i64]), 2, true, 16, [.int .i64 0, .int .i64 0], (some T713d), [(0, 3), (1, 3)], none, none, none⟩),
  (105, ⟨(some [some .i64, some .i64, some .i64, some .i64, none]), 5, true, 40, [.int .i64 0, .int .i64 0, .int .i64 0, .int .i64 0, .bool false], (some Ta655), [(0, 103), (2, 103), (4, 4)], none, none, none⟩),
  (106, ⟨none, 30, true, 240, [.int .i64 0, .int .i64 0, .int .i64 0, .int .i64 0, .bool false, .int .i64 0, .int .i64 0, .int .i64 0, .int .i64 0, .bool false, .int .i64 0, .int .i64 0, .int .i64 0, .int .i64 0, .bool false, .int .i64 0, .int .i64 0, .int .i64 0, .int .i64 0, .bool false, .int .i64 0, .int .i64 0, .int .i64 0, .int .i64 0, .bool false, .int .i64 0, .int .i64 0, .int .i64 0, .int .i64 0, .bool false], (some Tbbdd), [], none, (some (6, 105)), none⟩),
  (108, ⟨none, 1, false, 8, [.nilf], none, [], none, none, none⟩),
  (112, ⟨none, 1, false, 8, [.nilf], none, [], none, none, none⟩),
  (146, ⟨none, 1, false, 24, [.nils], (some (.slice T814c)), [], (some 54), none, none⟩),
  (148, ⟨none, 1, false, 8, [.nilf], none, [], none, none, none⟩),
  (152, ⟨none, 1, false, 24, [.nils], (some (.slice T1383)), [], (some 39), none, none⟩),
  (154, ⟨none, 1, false, 8, [.nilf], none, [], none, none, none⟩),
  (162, ⟨(some [some .u32]), 1, false, 4, [.int .u32 0], (some (.int .u32)), [], none, none, none⟩),
  (164, ⟨(some [some .u64]), 1, false, 8, [.int .u64 0], (some (.int .u64)), [], none, none, none⟩)]
noncomputable abbrev P := Go.Proofs.Tryd.prog
theorem tt_ck : tt.ck P = true := by kernel_rfl
theorem mixed : P.follows .mixedOrders = true := by kernel_rfl
end Go.Proofs.YtkhjemahenkdiaaDoor.V
