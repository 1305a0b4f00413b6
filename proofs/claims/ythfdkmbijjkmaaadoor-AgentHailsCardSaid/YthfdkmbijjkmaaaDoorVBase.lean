/- The types, and what all functions' texts use. Printed by vgen.py. -/
import Derived.Test.YthfdkmbijjkmaaaDoorProg
import Derived.Test.YthfdkmbijjkmaaaDoorVX
namespace Go.Proofs.YthfdkmbijjkmaaaDoor.V
open Go Go.RowKit
abbrev T713d : Ty := .pair (.int .i64) (.int .i64)
abbrev Tf9b7 : Ty := .pair (.int .i64) T713d
abbrev Td285 : Ty := .pair (.int .i64) Tf9b7
abbrev T1383 : Ty := .pair T713d Td285
abbrev T2916 : Ty := .pair (.int .i64) T1383
abbrev Tc550 : Ty := .pair (.int .i64) T2916
abbrev Td08c : Ty := .pair (.int .i64) Tc550
abbrev T4414 : Ty := .pair (.int .i64) Td08c
abbrev T88db : Ty := .pair T713d .bool
abbrev Ta655 : Ty := .pair T713d T88db
abbrev T814c : Ty := .pair (.int .i64) (.slice T1383)
abbrev Tf5fb : Ty := .pair (.slice T814c) (.int .i64)
abbrev T1a38 : Ty := .pair (.int .i64) Tf5fb
abbrev T6398 : Ty := .pair (.int .i64) T1a38
abbrev T6aa8 : Ty := .pair .bool T6398
abbrev Taa0b : Ty := .pair (.int .i64) T6aa8
abbrev Tf20b : Ty := .pair (.int .i64) Taa0b
abbrev T66bd : Ty := .pair Tf20b (.int .i64)
abbrev T713b : Ty := .pair Ta655 Ta655
abbrev T3811 : Ty := .pair Ta655 T713b
abbrev Tdba7 : Ty := .pair Ta655 T3811
abbrev T0931 : Ty := .pair Ta655 Tdba7
abbrev Tbbdd : Ty := .pair Ta655 T0931
noncomputable def tt : TT := [(3, ⟨(some [some .i64]), 1, false, 8, [.int .i64 0], (some (.int .i64)), [], none, none, none, false⟩),
  (4, ⟨(some [none]), 1, false, 1, [.bool false], (some .bool), [], none, none, none, false⟩),
  (5, ⟨(some [some .u8]), 1, false, 1, [.int .u8 0], (some (.int .u8)), [], none, none, none, false⟩),
  (9, ⟨none, 1, false, 16, [.bad], none, [], none, none, none, true⟩),
  (22, ⟨none, 1, false, 24, [.nils], (some (.slice T814c)), [], (some 61), none, none, false⟩),
  (24, ⟨none, 7, true, 72, [.int .i64 0, .int .i64 0, .bool false, .int .i64 0, .int .i64 0, .nils, .int .i64 0], (some Tf20b), [(0, 3), (1, 3), (2, 4), (3, 3), (4, 3), (5, 22), (6, 3)], none, none, none, false⟩),
  (26, ⟨(some [some .i64, some .i64]), 2, true, 16, [.int .i64 0, .int .i64 0], (some T713d), [(0, 3), (1, 3)], none, none, none, false⟩),
  (28, ⟨(some [some .i64, some .i64]), 2, true, 16, [.int .i64 0, .int .i64 0], (some T713d), [(0, 3), (1, 3)], none, none, none, false⟩),
  (30, ⟨(some [some .i64, some .i64, some .i64, some .i64, some .i64, some .i64]), 6, true, 48, [.int .i64 0, .int .i64 0, .int .i64 0, .int .i64 0, .int .i64 0, .int .i64 0], (some T1383), [(0, 26), (2, 3), (3, 3), (4, 28)], none, none, none, false⟩),
  (32, ⟨(some [some .i64, some .i64, some .i64, some .i64, some .i64, some .i64, some .i64, some .i64, some .i64, some .i64]), 10, true, 80, [.int .i64 0, .int .i64 0, .int .i64 0, .int .i64 0, .int .i64 0, .int .i64 0, .int .i64 0, .int .i64 0, .int .i64 0, .int .i64 0], (some T4414), [(0, 3), (1, 3), (2, 3), (3, 3), (4, 30)], none, none, none, false⟩),
  (35, ⟨none, 1, false, 24, [.nils], (some (.slice (.int .u8))), [], (some 5), none, none, false⟩),
  (36, ⟨(some [some .i64]), 1, false, 8, [.int .i64 0], (some (.int .i64)), [], none, none, none, false⟩),
  (39, ⟨none, 1, false, 24, [.nils], (some (.slice (.slice (.int .u8)))), [], (some 35), none, none, false⟩),
  (59, ⟨none, 1, false, 24, [.nils], (some (.slice T1383)), [], (some 30), none, none, false⟩),
  (61, ⟨none, 2, true, 32, [.int .i64 0, .nils], (some T814c), [(0, 3), (1, 59)], none, none, none, false⟩),
  (63, ⟨none, 1, false, 8, [.nilf], none, [], none, none, none, false⟩),
  (70, ⟨none, 1, false, 8, [.nilp], none, [], none, none, none, false⟩),
  (72, ⟨none, 8, true, 80, [.int .i64 0, .int .i64 0, .bool false, .int .i64 0, .int .i64 0, .nils, .int .i64 0, .int .i64 0], (some T66bd), [(0, 24), (7, 3)], none, none, none, false⟩),
  (73, ⟨none, 1, false, 8, [.nilf], none, [], none, none, none, false⟩),
  (75, ⟨none, 1, false, 8, [.bad], none, [], none, none, (some (3, 73)), false⟩),
  (79, ⟨none, 1, false, 8, [.nilf], none, [], none, none, none, false⟩),
  (81, ⟨none, 1, false, 8, [.nilf], none, [], none, none, none, false⟩),
  (82, ⟨none, 1, false, 24, [.nils], none, [], (some 81), none, none, false⟩),
  (91, ⟨none, 1, false, 8, [.nilf], none, [], none, none, none, false⟩),
  (102, ⟨none, 1, false, 24, [.nils], (some (.slice (.int .i64))), [], (some 3), none, none, false⟩),
  (104, ⟨(some [some .i64, some .i64]), 2, true, 16, [.int .i64 0, .int .i64 0], (some T713d), [(0, 3), (1, 3)], none, none, none, false⟩),
  (106, ⟨(some [some .i64, some .i64, some .i64, some .i64, none]), 5, true, 40, [.int .i64 0, .int .i64 0, .int .i64 0, .int .i64 0, .bool false], (some Ta655), [(0, 104), (2, 104), (4, 4)], none, none, none, false⟩),
  (107, ⟨none, 30, true, 240, [.int .i64 0, .int .i64 0, .int .i64 0, .int .i64 0, .bool false, .int .i64 0, .int .i64 0, .int .i64 0, .int .i64 0, .bool false, .int .i64 0, .int .i64 0, .int .i64 0, .int .i64 0, .bool false, .int .i64 0, .int .i64 0, .int .i64 0, .int .i64 0, .bool false, .int .i64 0, .int .i64 0, .int .i64 0, .int .i64 0, .bool false, .int .i64 0, .int .i64 0, .int .i64 0, .int .i64 0, .bool false], (some Tbbdd), [], none, (some (6, 106)), none, false⟩),
  (125, ⟨(some [some .u64]), 1, false, 8, [.int .u64 0], (some (.int .u64)), [], none, none, none, false⟩),
  (126, ⟨(some [some .u32]), 1, false, 4, [.int .u32 0], (some (.int .u32)), [], none, none, none, false⟩)]
noncomputable abbrev P := Go.Proofs.Tryd.prog
theorem tt_ck : tt.ck P = true := by kernel_rfl
theorem mixed : P.follows .mixedOrders = true := by kernel_rfl
end Go.Proofs.YthfdkmbijjkmaaaDoor.V
