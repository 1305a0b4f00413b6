/- The types, and what all functions' texts use. Printed by vgen.py. -/
import Derived.Test.YthfdkmbijjkmaaaDoorProg
import Derived.Test.YthfdkmbijjkmaaaDoorVX
namespace Go.Proofs.YthfdkmbijjkmaaaDoor.V
open Go Go.RowKit
abbrev T713d : Ty := .pair (.int .i64) (.int .i64)
abbrev Tf9b7 : Ty := .pair (.int .i64) T713d
abbrev Td285 : Ty := .pair (.int .i64) Tf9b7
abbrev T1383 : Ty := .pair T713d Td285
abbrev T2916 : Ty := .pair (.int .i64) T1383
abbrev Tc550 : Ty := .pair (.int .i64) T2916
abbrev Td08c : Ty := .pair (.int .i64) Tc550
abbrev T4414 : Ty := .pair (.int .i64) Td08c
abbrev T88db : Ty := .pair T713d .bool
abbrev Ta655 : Ty := .pair T713d T88db
abbrev T814c : Ty := .pair (.int .i64) (.slice T1383)
abbrev Tf5fb : Ty := .pair (.slice T814c) (.int .i64)
abbrev T1a38 : Ty := .pair (.int .i64) Tf5fb
abbrev T6398 : Ty := .pair (.int .i64) T1a38
abbrev T6aa8 : Ty := .pair .bool T6398
abbrev Taa0b : Ty := .pair (.int .i64) T6aa8
abbrev Tf20b : Ty := .pair (.int .i64) Taa0b
abbrev T66bd : Ty := .pair Tf20b (.int .i64)
abbrev T4bf6 : Ty := .pair (.int .i64) (.slice T4414)
abbrev Tb104 : Ty := .pair (.int .i64) T4bf6
abbrev Tf5b2 : Ty := .pair .bool (.int .u8)
abbrev T57ec : Ty := .pair (.int .i64) Tf5b2
abbrev T4474 : Ty := .pair (.int .i64) T57ec
abbrev T713b : Ty := .pair Ta655 Ta655
abbrev T3811 : Ty := .pair Ta655 T713b
abbrev Tdba7 : Ty := .pair Ta655 T3811
abbrev T0931 : Ty := .pair Ta655 Tdba7
abbrev Tbbdd : Ty := .pair Ta655 T0931
noncomputable def tt : TT := [(2, ⟨(some [some .i64]), 1, false, 8, [.int .i64 0], (some (.int .i64)), [], none, none, none⟩),
  (3, ⟨(some [some .i64]), 1, false, 8, [.int .i64 0], (some (.int .i64)), [], none, none, none⟩),
  (4, ⟨(some [none]), 1, false, 1, [.bool false], (some .bool), [], none, none, none⟩),
  (5, ⟨(some [some .u8]), 1, false, 1, [.int .u8 0], (some (.int .u8)), [], none, none, none⟩),
  (6, ⟨(some [some .u8]), 1, false, 1, [.int .u8 0], (some (.int .u8)), [], none, none, none⟩),
  (8, ⟨(some [some .i64, some .i64, none, some .u8]), 4, true, 24, [.int .i64 0, .int .i64 0, .bool false, .int .u8 0], (some T4474), [(0, 2), (1, 3), (2, 4), (3, 6)], none, none, none⟩),
  (9, ⟨none, 1, false, 16, [.bad], none, [], none, none, none⟩),
  (22, ⟨none, 1, false, 24, [.nils], (some (.slice T814c)), [], (some 61), none, none⟩),
  (24, ⟨none, 7, true, 72, [.int .i64 0, .int .i64 0, .bool false, .int .i64 0, .int .i64 0, .nils, .int .i64 0], (some Tf20b), [(0, 3), (1, 3), (2, 4), (3, 3), (4, 3), (5, 22), (6, 3)], none, none, none⟩),
  (26, ⟨(some [some .i64, some .i64]), 2, true, 16, [.int .i64 0, .int .i64 0], (some T713d), [(0, 3), (1, 3)], none, none, none⟩),
  (28, ⟨(some [some .i64, some .i64]), 2, true, 16, [.int .i64 0, .int .i64 0], (some T713d), [(0, 3), (1, 3)], none, none, none⟩),
  (30, ⟨(some [some .i64, some .i64, some .i64, some .i64, some .i64, some .i64]), 6, true, 48, [.int .i64 0, .int .i64 0, .int .i64 0, .int .i64 0, .int .i64 0, .int .i64 0], (some T1383), [(0, 26), (2, 3), (3, 3), (4, 28)], none, none, none⟩),
  (32, ⟨(some [some .i64, some .i64, some .i64, some .i64, some .i64, some .i64, some .i64, some .i64, some .i64, some .i64]), 10, true, 80, [.int .i64 0, .int .i64 0, .int .i64 0, .int .i64 0, .int .i64 0, .int .i64 0, .int .i64 0, .int .i64 0, .int .i64 0, .int .i64 0], (some T4414), [(0, 3), (1, 3), (2, 3), (3, 3), (4, 30)], none, none, none⟩),
  (35, ⟨none, 1, false, 24, [.nils], (some (.slice (.int .u8))), [], (some 5), none, none⟩),
  (36, ⟨(some [some .i64]), 1, false, 8, [.int .i64 0], (some (.int .i64)), [], none, none, none⟩),
  (39, ⟨none, 1, false, 24, [.nils], (some (.slice (.slice (.int .u8)))), [], (some 35), none, none⟩),
  (48, ⟨none, 1, false, 24, [.nils], (some (.slice T4414)), [], (some 32), none, none⟩),
  (51, ⟨none, 3, true, 40, [.int .i64 0, .int .i64 0, .nils], (some Tb104), [(0, 3), (1, 3), (2, 48)], none, none, none⟩),
  (59, ⟨none, 1, false, 24, [.nils], (some (.slice T1383)), [], (some 30), none, none⟩),
  (61, ⟨none, 2, true, 32, [.int .i64 0, .nils], (some T814c), [(0, 3), (1, 59)], none, none, none⟩),
  (63, ⟨none, 1, false, 8, [.nilf], none, [], none, none, none⟩),
  (70, ⟨none, 1, false, 8, [.nilp], none, [], none, none, none⟩),
  (72, ⟨none, 8, true, 80, [.int .i64 0, .int .i64 0, .bool false, .int .i64 0, .int .i64 0, .nils, .int .i64 0, .int .i64 0], (some T66bd), [(0, 24), (7, 3)], none, none, none⟩),
  (73, ⟨none, 1, false, 8, [.nilf], none, [], none, none, none⟩),
  (75, ⟨none, 1, false, 8, [.bad], none, [], none, none, (some (3, 73))⟩),
  (79, ⟨none, 1, false, 8, [.nilf], none, [], none, none, none⟩),
  (81, ⟨none, 1, false, 8, [.nilf], none, [], none, none, none⟩),
  (82, ⟨none, 1, false, 24, [.nils], none, [], (some 81), none, none⟩),
  (91, ⟨none, 1, false, 8, [.nilf], none, [], none, none, none⟩),
  (96, ⟨none, 1, false, 24, [.nils], (some (.slice T814c)), [], (some 61), none, none⟩),
  (99, ⟨none, 1, false, 8, [.nilf], none, [], none, none, none⟩),
  (100, ⟨none, 1, false, 8, [.nilf], none, [], none, none, none⟩),
  (102, ⟨none, 1, false, 24, [.nils], (some (.slice (.int .i64))), [], (some 3), none, none⟩),
  (104, ⟨(some [some .i64, some .i64]), 2, true, 16, [.int .i64 0, .int .i64 0], (some T713d), [(0, 3), (1, 3)], none, none, none⟩),
  (106, ⟨(some [some .i64, some .i64, some .i64, some .i64, none]), 5, true, 40, [.int .i64 0, .int .i64 0, .int .i64 0, .int .i64 0, .bool false], (some Ta655), [(0, 104), (2, 104), (4, 4)], none, none, none⟩),
  (107, ⟨none, 30, true, 240, [.int .i64 0, .int .i64 0, .int .i64 0, .int .i64 0, .bool false, .int .i64 0, .int .i64 0, .int .i64 0, .int .i64 0, .bool false, .int .i64 0, .int .i64 0, .int .i64 0, .int .i64 0, .bool false, .int .i64 0, .int .i64 0, .int .i64 0, .int .i64 0, .bool false, .int .i64 0, .int .i64 0, .int .i64 0, .int .i64 0, .bool false, .int .i64 0, .int .i64 0, .int .i64 0, .int .i64 0, .bool false], (some Tbbdd), [], none, (some (6, 106)), none⟩),
  (118, ⟨none, 1, false, 24, [.nils], (some (.slice T1383)), [], (some 30), none, none⟩),
  (120, ⟨none, 1, false, 8, [.nilf], none, [], none, none, none⟩),
  (125, ⟨(some [some .u64]), 1, false, 8, [.int .u64 0], (some (.int .u64)), [], none, none, none⟩),
  (126, ⟨(some [some .u32]), 1, false, 4, [.int .u32 0], (some (.int .u32)), [], none, none, none⟩)]
noncomputable abbrev P := Go.Proofs.Tryd.prog
theorem tt_ck : tt.ck P = true := by kernel_rfl
theorem mixed : P.follows .mixedOrders = true := by kernel_rfl
end Go.Proofs.YthfdkmbijjkmaaaDoor.V
