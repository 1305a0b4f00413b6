/- The types, and what all functions' texts use. Printed by vgen.py. -/
import Derived.Test.YtkobhleoebgbhaaProg
import Derived.Test.YtkobhleoebgbhaaVY
namespace Go.Proofs.Ytkobhleoebgbhaa.V
open Go Go.RowKit
abbrev T713d : Ty := .pair (.int .i64) (.int .i64)
abbrev Tf9b7 : Ty := .pair (.int .i64) T713d
abbrev Td285 : Ty := .pair (.int .i64) Tf9b7
abbrev T1383 : Ty := .pair T713d Td285
abbrev T2916 : Ty := .pair (.int .i64) T1383
abbrev Tc550 : Ty := .pair (.int .i64) T2916
abbrev Td08c : Ty := .pair (.int .i64) Tc550
abbrev T4414 : Ty := .pair (.int .i64) Td08c
abbrev T4bf6 : Ty := .pair (.int .i64) (.slice T4414)
abbrev Tb104 : Ty := .pair (.int .i64) T4bf6
abbrev T814c : Ty := .pair (.int .i64) (.slice T1383)
noncomputable def tt : TT := [(3, ⟨(some [some .i64]), 1, false, 8, [.int .i64 0], (some (.int .i64)), [], none, none⟩),
  (4, ⟨(some [none]), 1, false, 1, [.bool false], (some .bool), [], none, none⟩),
  (22, ⟨none, 1, false, 24, [.nils], (some (.slice Tf9b7)), [], (some 30), none⟩),
  (24, ⟨none, 1, false, 24, [.nils], (some (.slice T4414)), [], (some 41), none⟩),
  (26, ⟨none, 3, true, 40, [.int .i64 0, .int .i64 0, .nils], (some Tb104), [(0, 3), (1, 3), (2, 24)], none, none⟩),
  (28, ⟨none, 1, false, 24, [.nils], (some (.slice (.int .i64))), [], (some 3), none⟩),
  (30, ⟨(some [some .i64, some .i64, some .i64]), 3, true, 24, [.int .i64 0, .int .i64 0, .int .i64 0], (some Tf9b7), [(0, 3), (1, 3), (2, 3)], none, none⟩),
  (31, ⟨(some [some .i64]), 1, false, 8, [.int .i64 0], (some (.int .i64)), [], none, none⟩),
  (35, ⟨(some [some .i64, some .i64]), 2, true, 16, [.int .i64 0, .int .i64 0], (some T713d), [(0, 3), (1, 3)], none, none⟩),
  (37, ⟨(some [some .i64, some .i64]), 2, true, 16, [.int .i64 0, .int .i64 0], (some T713d), [(0, 3), (1, 3)], none, none⟩),
  (39, ⟨(some [some .i64, some .i64, some .i64, some .i64, some .i64, some .i64]), 6, true, 48, [.int .i64 0, .int .i64 0, .int .i64 0, .int .i64 0, .int .i64 0, .int .i64 0], (some T1383), [(0, 35), (2, 3), (3, 3), (4, 37)], none, none⟩),
  (41, ⟨(some [some .i64, some .i64, some .i64, some .i64, some .i64, some .i64, some .i64, some .i64, some .i64, some .i64]), 10, true, 80, [.int .i64 0, .int .i64 0, .int .i64 0, .int .i64 0, .int .i64 0, .int .i64 0, .int .i64 0, .int .i64 0, .int .i64 0, .int .i64 0], (some T4414), [(0, 3), (1, 3), (2, 3), (3, 3), (4, 39)], none, none⟩),
  (45, ⟨none, 1, false, 24, [.nils], (some (.slice T814c)), [], (some 49), none⟩),
  (47, ⟨none, 1, false, 24, [.nils], (some (.slice T1383)), [], (some 39), none⟩),
  (49, ⟨none, 2, true, 32, [.int .i64 0, .nils], (some T814c), [(0, 3), (1, 47)], none, none⟩),
  (71, ⟨none, 1, false, 8, [.nilf], none, [], none, none⟩),
  (72, ⟨none, 1, false, 24, [.nils], (some (.slice T814c)), [], (some 49), none⟩),
  (75, ⟨none, 1, false, 8, [.nilf], none, [], none, none⟩),
  (90, ⟨none, 1, false, 24, [.nils], (some (.slice T1383)), [], (some 39), none⟩),
  (92, ⟨none, 1, false, 8, [.nilf], none, [], none, none⟩)]
noncomputable abbrev P := Go.Proofs.Try.prog
theorem tt_ck : tt.ck P = true := by kernel_rfl
theorem mixed : P.follows .mixedOrders = true := by kernel_rfl
end Go.Proofs.Ytkobhleoebgbhaa.V
