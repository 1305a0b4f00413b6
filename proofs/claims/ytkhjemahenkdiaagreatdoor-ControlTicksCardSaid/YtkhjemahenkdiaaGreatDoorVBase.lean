/- The types, and what all functions' texts use. Printed by vgen.py. -/
import Derived.Test.YtkhjemahenkdiaaGreatDoorProg
import Derived.Test.YtkhjemahenkdiaaGreatDoorVKS
import Derived.Deep.LoopGhost
import Derived.Deep.QuietTactic
import Derived.BigQuiet
import Derived.WalkKit
import Derived.Tactics
import Derived.OwnWalk
import Derived.Laws.Rows
import Derived.WalkSpells
import Derived.Deep.WholeRow
import Derived.LoopTactic
import Derived.Tactics2
import Derived.IntWalk
import Derived.BigFrame
import Derived.Maps.RangeRun
import Derived.OwnWalkIn
import Derived.LoopIn
import Derived.LoopNIn
import Derived.TacticsIn
import Derived.TacticsInMore
import Derived.Shelf.Abstract
import Derived.Maps.AppendAt
import Derived.RangeFuncNested
import Derived.RangeFuncCalls
import Derived.RangeFuncBound
import Derived.RangeFuncLeaves
import Derived.Deep.RegionLaw
import Derived.Laws.MakeOwn
import Derived.Laws.CopyRow
namespace Go.Proofs.YtkhjemahenkdiaaGreatDoor.V
open Go Go.RowKit
abbrev T713d : Ty := .pair (.int .i64) (.int .i64)
abbrev Tf9b7 : Ty := .pair (.int .i64) T713d
abbrev Td285 : Ty := .pair (.int .i64) Tf9b7
abbrev Tdd61 : Ty := .pair (.int .i64) (.slice Td285)
abbrev T5477 : Ty := .pair (.int .i64) Tdd61
abbrev T1383 : Ty := .pair T713d Td285
abbrev T2916 : Ty := .pair (.int .i64) T1383
abbrev Tc550 : Ty := .pair (.int .i64) T2916
abbrev Td08c : Ty := .pair (.int .i64) Tc550
abbrev T4414 : Ty := .pair (.int .i64) Td08c
abbrev T88db : Ty := .pair T713d .bool
abbrev Ta655 : Ty := .pair T713d T88db
abbrev T4bf6 : Ty := .pair (.int .i64) (.slice T4414)
abbrev Tb104 : Ty := .pair (.int .i64) T4bf6
abbrev T0b9f : Ty := .pair (.int .i64) Tb104
abbrev T23b6 : Ty := .pair (.int .i64) T0b9f
abbrev T5b41 : Ty := .pair (.slice (.int .i64)) (.int .i64)
abbrev Ta2d3 : Ty := .pair (.slice (.int .i64)) T5b41
abbrev Tac80 : Ty := .pair (.slice T713d) Ta2d3
abbrev Tb553 : Ty := .pair (.slice T23b6) Tac80
abbrev T9002 : Ty := .pair (.slice (.int .i64)) Tb553
abbrev T8366 : Ty := .pair (.int .i64) T9002
abbrev Tc650 : Ty := .pair (.int .i64) T8366
abbrev T7ad9 : Ty := .pair (.int .i64) Tc650
abbrev Td38f : Ty := .pair (.int .i64) T7ad9
abbrev T4bd0 : Ty := .pair (.int .i64) Td38f
abbrev Tb179 : Ty := .pair (.int .i64) T4bd0
abbrev T26b3 : Ty := .pair (.slice (.slice (.slice T1383))) Tb179
abbrev T814c : Ty := .pair (.int .i64) (.slice T1383)
abbrev Tf9e1 : Ty := .pair .bool (.slice (.int .u8))
abbrev T2b36 : Ty := .pair (.int .i64) Tf9e1
abbrev T713b : Ty := .pair Ta655 Ta655
abbrev T3811 : Ty := .pair Ta655 T713b
abbrev Tdba7 : Ty := .pair Ta655 T3811
abbrev T0931 : Ty := .pair Ta655 Tdba7
abbrev Tbbdd : Ty := .pair Ta655 T0931
noncomputable def tt : TT := [(3, ⟨(some [some .i64]), 1, false, 8, [.int .i64 0], (some (.int .i64)), [], none, none, none, false, false⟩),
  (4, ⟨(some [none]), 1, false, 1, [.bool false], (some .bool), [], none, none, none, false, false⟩),
  (5, ⟨(some [some .u8]), 1, false, 1, [.int .u8 0], (some (.int .u8)), [], none, none, none, false, false⟩),
  (9, ⟨none, 1, false, 16, [.bad], none, [], none, none, none, true, false⟩),
  (22, ⟨none, 1, false, 24, [.nils], (some (.slice (.slice (.slice T1383)))), [], (some 38), none, none, false, false⟩),
  (23, ⟨none, 1, false, 24, [.nils], (some (.slice (.int .i64))), [], (some 3), none, none, false, false⟩),
  (24, ⟨none, 1, false, 24, [.nils], (some (.slice T23b6)), [], (some 58), none, none, false, false⟩),
  (25, ⟨none, 1, false, 24, [.nils], (some (.slice T713d)), [], (some 93), none, none, false, false⟩),
  (27, ⟨none, 13, true, 200, [.nils, .int .i64 0, .int .i64 0, .int .i64 0, .int .i64 0, .int .i64 0, .int .i64 0, .nils, .nils, .nils, .nils, .nils, .int .i64 0], (some T26b3), [(0, 22), (1, 3), (2, 3), (3, 3), (4, 3), (5, 3), (6, 3), (7, 23), (8, 24), (9, 25), (10, 23), (11, 23), (12, 3)], none, none, none, false, false⟩),
  (28, ⟨none, 1, false, 24, [.nils], (some (.slice (.int .u8))), [], (some 5), none, none, false, false⟩),
  (34, ⟨none, 1, false, 24, [.nils], (some (.slice Td285)), [], (some 103), none, none, false, false⟩),
  (36, ⟨none, 3, true, 40, [.int .i64 0, .int .i64 0, .nils], (some T5477), [(0, 3), (1, 3), (2, 34)], none, none, none, false, false⟩),
  (38, ⟨none, 1, false, 24, [.nils], (some (.slice (.slice T1383))), [], (some 89), none, none, false, false⟩),
  (40, ⟨(some [some .i64]), 1, false, 8, [.int .i64 0], (some (.int .i64)), [], none, none, none, false, false⟩),
  (47, ⟨none, 1, false, 24, [.nils], (some (.slice T2b36)), [], (some 74), none, none, false, false⟩),
  (49, ⟨none, 1, false, 24, [.nils], (some (.slice T814c)), [], (some 100), none, none, false, false⟩),
  (54, ⟨none, 1, false, 24, [.nils], (some (.slice T4414)), [], (some 66), none, none, false, false⟩),
  (56, ⟨none, 3, true, 40, [.int .i64 0, .int .i64 0, .nils], (some Tb104), [(0, 3), (1, 3), (2, 54)], none, none, none, false, false⟩),
  (58, ⟨none, 5, true, 56, [.int .i64 0, .int .i64 0, .int .i64 0, .int .i64 0, .nils], (some T23b6), [(0, 3), (1, 3), (2, 56)], none, none, none, false, false⟩),
  (60, ⟨(some [some .i64, some .i64]), 2, true, 16, [.int .i64 0, .int .i64 0], (some T713d), [(0, 3), (1, 3)], none, none, none, false, false⟩),
  (62, ⟨(some [some .i64, some .i64]), 2, true, 16, [.int .i64 0, .int .i64 0], (some T713d), [(0, 3), (1, 3)], none, none, none, false, false⟩),
  (64, ⟨(some [some .i64, some .i64, some .i64, some .i64, some .i64, some .i64]), 6, true, 48, [.int .i64 0, .int .i64 0, .int .i64 0, .int .i64 0, .int .i64 0, .int .i64 0], (some T1383), [(0, 60), (2, 3), (3, 3), (4, 62)], none, none, none, false, false⟩),
  (66, ⟨(some [some .i64, some .i64, some .i64, some .i64, some .i64, some .i64, some .i64, some .i64, some .i64, some .i64]), 10, true, 80, [.int .i64 0, .int .i64 0, .int .i64 0, .int .i64 0, .int .i64 0, .int .i64 0, .int .i64 0, .int .i64 0, .int .i64 0, .int .i64 0], (some T4414), [(0, 3), (1, 3), (2, 3), (3, 3), (4, 64)], none, none, none, false, false⟩),
  (74, ⟨none, 3, true, 40, [.int .i64 0, .bool false, .nils], (some T2b36), [(0, 3), (1, 4), (2, 28)], none, none, none, false, false⟩),
  (79, ⟨none, 1, false, 8, [.nilp], none, [], none, none, none, false, false⟩),
  (82, ⟨none, 13, true, 200, [.nils, .int .i64 0, .int .i64 0, .int .i64 0, .int .i64 0, .int .i64 0, .int .i64 0, .nils, .nils, .nils, .nils, .nils, .int .i64 0], (some T26b3), [(0, 27)], none, none, none, false, false⟩),
  (89, ⟨none, 1, false, 24, [.nils], (some (.slice T1383)), [], (some 64), none, none, false, false⟩),
  (93, ⟨(some [some .i64, some .i64]), 2, true, 16, [.int .i64 0, .int .i64 0], (some T713d), [(0, 3), (1, 3)], none, none, none, false, false⟩),
  (94, ⟨none, 1, false, 8, [.nilf], none, [], none, none, none, false, false⟩),
  (95, ⟨none, 6, true, 48, [.nilf, .nilf, .nilf, .nilf, .nilf, .nilf], none, [], none, (some (6, 94)), none, false, false⟩),
  (100, ⟨none, 2, true, 32, [.int .i64 0, .nils], (some T814c), [(0, 3), (1, 89)], none, none, none, false, false⟩),
  (103, ⟨(some [some .i64, some .i64, some .i64, some .i64]), 4, true, 32, [.int .i64 0, .int .i64 0, .int .i64 0, .int .i64 0], (some Td285), [(0, 3), (1, 3), (2, 3), (3, 3)], none, none, none, false, false⟩),
  (105, ⟨(some [some .u64]), 1, false, 8, [.int .u64 0], (some (.int .u64)), [], none, none, none, false, false⟩),
  (106, ⟨none, 1, false, 8, [.nilf], none, [], none, none, none, false, false⟩),
  (108, ⟨none, 1, false, 8, [.nilf], none, [], none, none, none, false, false⟩),
  (109, ⟨none, 1, false, 24, [.nils], none, [], (some 108), none, none, false, false⟩),
  (118, ⟨none, 1, false, 8, [.nilf], none, [], none, none, none, false, false⟩),
  (128, ⟨none, 1, false, 8, [.nilf], none, [], none, none, none, false, false⟩),
  (130, ⟨none, 1, false, 8, [.nilf], none, [], none, none, none, false, false⟩),
  (136, ⟨none, 1, false, 8, [.nilf], none, [], none, none, none, false, false⟩),
  (137, ⟨none, 1, false, 8, [.nilf], none, [], none, none, none, false, false⟩),
  (140, ⟨(some [some .i64, some .i64]), 2, true, 16, [.int .i64 0, .int .i64 0], (some T713d), [(0, 3), (1, 3)], none, none, none, false, false⟩),
  (142, ⟨(some [some .i64, some .i64, some .i64, some .i64, none]), 5, true, 40, [.int .i64 0, .int .i64 0, .int .i64 0, .int .i64 0, .bool false], (some Ta655), [(0, 140), (2, 140), (4, 4)], none, none, none, false, false⟩),
  (143, ⟨none, 30, true, 240, [.int .i64 0, .int .i64 0, .int .i64 0, .int .i64 0, .bool false, .int .i64 0, .int .i64 0, .int .i64 0, .int .i64 0, .bool false, .int .i64 0, .int .i64 0, .int .i64 0, .int .i64 0, .bool false, .int .i64 0, .int .i64 0, .int .i64 0, .int .i64 0, .bool false, .int .i64 0, .int .i64 0, .int .i64 0, .int .i64 0, .bool false, .int .i64 0, .int .i64 0, .int .i64 0, .int .i64 0, .bool false], (some Tbbdd), [], none, (some (6, 142)), none, false, false⟩),
  (152, ⟨none, 1, false, 24, [.nils], (some (.slice T814c)), [], (some 100), none, none, false, false⟩),
  (154, ⟨none, 1, false, 8, [.nilf], none, [], none, none, none, false, false⟩),
  (171, ⟨none, 1, false, 24, [.nils], (some (.slice T1383)), [], (some 64), none, none, false, false⟩),
  (173, ⟨none, 1, false, 8, [.nilf], none, [], none, none, none, false, false⟩),
  (188, ⟨(some [some .u32]), 1, false, 4, [.int .u32 0], (some (.int .u32)), [], none, none, none, false, false⟩),
  (190, ⟨(some [some .u64]), 1, false, 8, [.int .u64 0], (some (.int .u64)), [], none, none, none, false, false⟩)]
noncomputable abbrev P := Go.Proofs.Tryz.prog
theorem tt_ck : tt.ck P = true := by kernel_rfl
theorem mixed : P.follows .mixedOrders = true := by kernel_rfl
abbrev Hl := Heap
noncomputable def eV (l : List (Nat × Spec)) : Env := { tt := tt, Γ := slk l }
theorem eOk {l : List (Nat × Spec)} (h : ∀ f s, slk l f = some s → Fits P f s) : EnvOk P (eV l) := { ck := tt_ck, fits := h, mixed := mixed }
abbrev bo (f : Func) : Code := f.body.getD .skip
theorem fitsA {V : Env} (hV : EnvOk P V) {f : Nat} {fn : Func} {c : Code} {s : Spec} (hf : P.funcs[f]? = some fn) (h : ∀ x r, s.rel x r → W P 0 c (start fn.ntmps s x) (fun e σ' => (e = .normal ∨ e = .ret) ∧ ret V.tt fn.results σ' s = some r)) (hb : fn.body = some c := by kernel_rfl) (hn : fn.name ≠ "runtime.NumGoroutine" := by decide) (hps : s.ps.length ≤ fn.ntmps := by decide) (ho : s.own = none := by rfl) : Fits P f s := fits_of hV hf hb hn hps ho h
theorem fnA {f nt : Nat} {c : Code} {rs : Array ResultVar} {fn : Func} (hf : P.funcs[f]? = some fn) (hb : fn.body = some c := by kernel_rfl) (hn : fn.name ≠ "runtime.NumGoroutine" := by decide) (h1 : fn.ntmps = nt := by kernel_rfl) (h2 : fn.results = rs := by kernel_rfl) : FnAt P f nt c rs := fnAt hf hb hn h1 h2
theorem Ra {V : Env} {σ : St} {n : Nat} {Q : Exit → St → Prop} {x : Nx} (hk : Gw P n Q (nx x) (rgS V x 0 [] σ)) (hV : EnvOk P V := by exact V_ok) (h : rgC V x 0 [] σ = some [] := by kernel_rfl) : Gw P n Q x σ := Rg hV 0 [] az hk h
end Go.Proofs.YtkhjemahenkdiaaGreatDoor.V
