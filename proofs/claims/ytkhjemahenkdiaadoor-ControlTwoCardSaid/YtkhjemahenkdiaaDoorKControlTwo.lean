/- What the law needs of plain Lean, and the law itself over it. -/
import Derived.Test.YtkhjemahenkdiaaDoorVF2
import Derived.Test.YtkhjemahenkdiaaDoorVBase
import Derived.IntWalk
import Derived.Test.YtkhjemahenkdiaaDoorVZ
namespace Go.Proofs.YtkhjemahenkdiaaDoor.V
open Go Go.RowKit
set_option synthInstance.maxSize 2000
set_option synthInstance.maxHeartbeats 200000
set_option linter.unusedVariables false
set_option linter.unusedSimpArgs false
theorem wsucc (i : Nat) (h : i < 1000000) : IntKind.i64.wrap ((i : Int) + 1) = ((i + 1 : Nat) : Int) := by rw [IntWalk.i64_in _ (by omega)]; omega
theorem att_n {e : Ty} (xs : List e.T) (i : Nat) (h : i < xs.length) : att e xs (i : Int) = xs[i] := by
  unfold att
  rw [Int.toNat_natCast, List.getElem?_eq_getElem h]
  rfl
theorem loop_at {R : Type} (B : Nat → Nat → Option R) (j : Nat) (r : Option R) (step : ∀ m i, i < j → B (m + 1) i = B m (i + 1)) (fin : ∀ m, B (m + 1) j = r) : ∀ d i m, i + d = j → d < m → B m i = r
  | 0, i, m + 1, h, _ => by rw [show i = j by omega]; exact fin m
  | d + 1, i, m + 1, h, hm => by rw [step m i (by omega)]; exact loop_at B j r step fin d (i + 1) m (by omega) (by omega)
theorem loop {R : Type} (B : Nat → Nat → Option R) (j : Nat) (r : Option R) (step : ∀ m i, i < j → B (m + 1) i = B m (i + 1)) (fin : ∀ m, B (m + 1) j = r) (m : Nat) (hm : j < m) : B m 0 = r := loop_at B j r step fin j 0 m (by omega) hm
theorem fi_not {α : Type} {p : α → Bool} {xs : List α} {i : Nat} (hi : i < xs.findIdx p) (hl : i < xs.length) : p xs[i] = false := by simpa using List.not_of_lt_findIdx hi
abbrev Rl := T1383.T
abbrev Vr := T814c.T
theorem clone_eq (k : Nat) (xs : List Rl) (h : xs.length < 1000000) : f_slices_Clone_Rule.f k xs = some (xs, ()) := by
  unfold f_slices_Clone_Rule.f
  rw [if_pos (by omega), if_pos (Or.inl rfl)]; rfl
theorem loop_or {R : Type} (B : Nat → Nat → Option R) (n : Nat) (Q : Nat → Prop) (r a : Option R) (step : ∀ m i, i < n → (Q i ∧ B (m + 1) i = B m (i + 1)) ∨ B (m + 1) i = a) (fin : (∀ i, i < n → Q i) → ∀ m, B (m + 1) n = r) : ∀ m, n < m → ((∀ i, i < n → Q i) ∧ B m 0 = r) ∨ B m 0 = a := by
  have key : ∀ d i m, i + d = n → d < m → (∀ j, j < i → Q j) → ((∀ i, i < n → Q i) ∧ B m i = r) ∨ B m i = a := by
    intro d
    induction d with
    | zero => intro i m h hm hq; obtain rfl : i = n := by omega
              obtain ⟨m, rfl⟩ : ∃ m', m = m' + 1 := ⟨m - 1, by omega⟩
              exact .inl ⟨hq, fin hq m⟩
    | succ d ih =>
      intro i m h hm hq
      obtain ⟨m, rfl⟩ : ∃ m', m = m' + 1 := ⟨m - 1, by omega⟩
      rcases step m i (by omega) with ⟨h1, h2⟩ | h2
      · rw [h2]
        exact ih (i + 1) m (by omega) (by omega) (fun j hj => by rcases Nat.lt_or_eq_of_le (Nat.le_of_lt_succ hj) with h | rfl; exact hq j h; exact h1)
      · exact .inr h2
  intro m hm
  exact key n 0 m (by omega) hm (fun j hj => absurd hj (Nat.not_lt_zero j))
abbrev Ct := T26b3.T
def inR (n : Nat) (x : Int) : Bool := decide (0 ≤ x ∧ x < (n : Int))
def two (ph : Int) : Bool := ph == 1 || ph == 2 || ph == 3
def rulesAt (x : List (List Rl)) (sw : Int) : List Rl := if 0 ≤ sw ∧ sw < (x.length : Int) then att (.slice T1383) x sw else []
def lvs (cs : List (List (List Rl))) (live next tag new ph sw : Int) : List Vr :=
  if two ph = true then
    if new < tag then [(new, rulesAt (att (.slice (.slice T1383)) cs next) sw), (tag, rulesAt (att (.slice (.slice T1383)) cs live) sw)]
    else [(tag, rulesAt (att (.slice (.slice T1383)) cs live) sw), (new, rulesAt (att (.slice (.slice T1383)) cs next) sw)]
  else [(tag, rulesAt (att (.slice (.slice T1383)) cs live) sw)]
def stampOf (tag new ph : Int) : Int := if ph = 2 ∨ ph = 3 then new else tag
def isB (nc : Nat) (live next ph : Int) (queue : List Int) (np : Nat) : Bool := ((next == -1 && !two ph) || inR nc next) && (inR nc live && (!queue.any (fun q => !inR nc q) && decide ((np : Int) ≤ 100)))
theorem index_at (xs : List Int) (x : Int) (h : xs.length < 1000) : f_slices_Index_int.f 1000 xs x = some ((if xs.findIdx (fun y => x == y) < xs.length then ((xs.findIdx (fun y => x == y) : Nat) : Int) else -1), ()) := by
  have hle : xs.findIdx (fun y => x == y) ≤ xs.length := List.findIdx_le_length
  unfold f_slices_Index_int.f
  refine loop (fun m i => f_slices_Index_int.l1 1000 m xs x (xs.length : Int) (i : Int)) (xs.findIdx (fun y => x == y)) _ (fun m i hi => ?_) (fun m => ?_) 1000 (by omega)
  · have hl : i < xs.length := by omega
    have hn := fi_not hi hl
    simp only [f_slices_Index_int.l1, f_slices_Index_int.b1]
    rw [if_pos (by (first | omega | (dsimp only [Ty.T]; omega) | (simp only [decide_eq_true_eq, decide_eq_false_iff_not, Bool.not_eq_true, Ty.T]; omega) | (simp only [decide_eq_true_eq, decide_eq_false_iff_not, Ty.T]; omega) | (simp only [beq_iff_eq, bne_iff_ne, ne_eq, decide_eq_true_eq, Ty.T]; omega))), if_pos (by omega), if_pos (by omega), att_n (e := .int .i64) xs i hl, if_neg (by rw [Bool.not_eq_true]; exact hn), wsucc i (by omega)]
  · simp only [f_slices_Index_int.l1, f_slices_Index_int.b1]
    by_cases hl : xs.findIdx (fun y => x == y) < xs.length
    · have hy := List.findIdx_getElem (w := hl)
      rw [if_pos (by (first | omega | (dsimp only [Ty.T]; omega) | (simp only [decide_eq_true_eq, decide_eq_false_iff_not, Bool.not_eq_true, Ty.T]; omega) | (simp only [decide_eq_true_eq, decide_eq_false_iff_not, Ty.T]; omega) | (simp only [beq_iff_eq, bne_iff_ne, ne_eq, decide_eq_true_eq, Ty.T]; omega))), if_pos (by omega), if_pos (by omega), att_n (e := .int .i64) xs _ hl, if_pos hy, if_pos hl]
    · rw [if_neg (by (first | omega | (dsimp only [Ty.T]; omega) | (simp only [decide_eq_true_eq, decide_eq_false_iff_not, Bool.not_eq_true, Ty.T]; omega) | (simp only [decide_eq_true_eq, decide_eq_false_iff_not, Ty.T]; omega) | (simp only [beq_iff_eq, bne_iff_ne, ne_eq, decide_eq_true_eq, Ty.T]; omega))), if_neg hl]
theorem contains_eq (xs : List Int) (x : Int) (h : xs.length < 1000) : f_slices_Contains_int.f 1000 xs x = some (xs.any (fun y => x == y), ()) := by
  unfold f_slices_Contains_int.f
  rw [index_at xs x h, Option.bind_some]
  have key : decide ((if xs.findIdx (fun y => x == y) < xs.length then ((xs.findIdx (fun y => x == y) : Nat) : Int) else -1) ≥ 0) = xs.any (fun y => x == y) := by
    rw [Bool.eq_iff_iff, decide_eq_true_eq, List.any_eq_true]
    by_cases hl : xs.findIdx (fun y => x == y) < xs.length
    · rw [if_pos hl]
      exact ⟨fun _ => ⟨_, List.getElem_mem hl, List.findIdx_getElem (w := hl)⟩, fun _ => by omega⟩
    · rw [if_neg hl]
      exact ⟨fun k => absurd k (by decide), fun ⟨y, h1, h2⟩ => absurd (List.findIdx_lt_length_of_exists ⟨y, h1, h2⟩) hl⟩
  exact congrArg (fun b => some (b, ())) key
theorem two_any (ph : Int) : [1, 2, 3].any (fun y => ph == y) = two ph := by
  unfold two
  simp only [List.any_cons, List.any_nil, Bool.or_false, Bool.or_assoc]
theorem conf_at (k : Nat) (x : List (List Rl)) (sw : Int) (h : ∀ l ∈ x, l.length < 1000000) : f_conf_At.f k x sw = some (rulesAt x sw, ()) := by
  unfold f_conf_At.f f_conf_At.j1 rulesAt
  by_cases h0 : sw < 0
  · rw [decide_eq_true h0, if_pos rfl, if_pos rfl, if_neg (by omega)]
  · rw [decide_eq_false h0, if_neg Bool.false_ne_true]
    by_cases h1 : sw < (x.length : Int)
    · obtain ⟨i, rfl⟩ : ∃ i : Nat, sw = (i : Int) := ⟨sw.toNat, by omega⟩
      have hi : i < x.length := by omega
      rw [decide_eq_false (by omega), if_neg Bool.false_ne_true, if_pos (by omega), if_pos h1, if_pos (by omega), att_n (e := .slice T1383) x i hi, clone_eq k _ (h _ (List.getElem_mem hi))]
      rfl
    · rw [decide_eq_true (by omega), if_pos rfl, if_neg (by omega)]
structure FewC (cs : List (List (List Rl))) (peers : List T23b6.T) (queue done undone : List Int) (given : List T713d.T) : Prop where
  c : cs.length ≤ 12
  p : peers.length ≤ 12
  q : queue.length ≤ 100
  g : given.length ≤ 100
  d : done.length ≤ 100
  u : undone.length ≤ 100
  r : ∀ x ∈ cs, x.length ≤ 10 ∧ ∀ l ∈ x, l.length ≤ 60
  o : ∀ y ∈ peers, y.2.2.2.2.length ≤ 100
abbrev FewOf (c : Ct) : Prop := FewC c.1 c.2.2.2.2.2.2.2.2.1 c.2.2.2.2.2.2.2.1 c.2.2.2.2.2.2.2.2.2.2.1 c.2.2.2.2.2.2.2.2.2.2.2.1 c.2.2.2.2.2.2.2.2.2.1
theorem few12 (x : List (List Rl)) : ∃ b, f_law12_Few.f 1000 x = some (b, ()) ∧ (b = true → x.length ≤ 10 ∧ ∀ l ∈ x, l.length ≤ 60) := by
  unfold f_law12_Few.f
  by_cases h : (x.length : Int) > 10
  · rw [decide_eq_true h, if_pos rfl]
    exact ⟨false, rfl, fun k => absurd k (by decide)⟩
  · rw [decide_eq_false h, if_neg Bool.false_ne_true]
    rcases loop_or (fun m i => f_law12_Few.l1 1000 m x (i : Int)) x.length (fun i => ∀ hi : i < x.length, x[i].length ≤ 60) (some (true, ())) (some (false, ())) (fun m i hi => by
        simp only [f_law12_Few.l1, f_law12_Few.b1]
        rw [if_pos (by (first | omega | (dsimp only [Ty.T]; omega) | (simp only [decide_eq_true_eq, decide_eq_false_iff_not, Bool.not_eq_true, Ty.T]; omega) | (simp only [decide_eq_true_eq, decide_eq_false_iff_not, Ty.T]; omega) | (simp only [beq_iff_eq, bne_iff_ne, ne_eq, decide_eq_true_eq, Ty.T]; omega))), if_pos (by omega), if_pos (by omega), att_n (e := .slice T1383) x i hi, wsucc i (by omega)]
        by_cases hc : (x[i].length : Int) > 60
        · right
          exact if_pos (decide_eq_true hc)
        · left
          exact ⟨fun _ => by omega, if_neg (by simpa using hc)⟩) (fun _ m => by
        simp only [f_law12_Few.l1, f_law12_Few.b1]
        rw [if_neg (by (first | omega | (dsimp only [Ty.T]; omega) | (simp only [decide_eq_true_eq, decide_eq_false_iff_not, Bool.not_eq_true, Ty.T]; omega) | (simp only [decide_eq_true_eq, decide_eq_false_iff_not, Ty.T]; omega) | (simp only [beq_iff_eq, bne_iff_ne, ne_eq, decide_eq_true_eq, Ty.T]; omega)))]) 1000 (by omega) with h | h
    · refine ⟨true, h.2, fun _ => ⟨by omega, fun l hl => ?_⟩⟩
      obtain ⟨i, hi, rfl⟩ := List.getElem_of_mem hl
      exact h.1 i hi hi
    · exact ⟨false, h, fun k => absurd k (by decide)⟩
theorem fewC (c : Ct) : ∃ b, f_law21_Few.f 1000 c = some (b, ()) ∧ (b = true → FewOf c) := by
  obtain ⟨cs, live, next, tag, new, ph, timer, queue, peers, given, done, undone, junk⟩ := c
  have nope : ∃ b, (some (false, ()) : Option f_law21_Few.R) = some (b, ()) ∧ (b = true → FewOf (cs, live, next, tag, new, ph, timer, queue, peers, given, done, undone, junk)) := ⟨false, rfl, fun k => absurd k (by decide)⟩
  unfold f_law21_Few.f f_law21_Few.j1
  dsimp only
  by_cases h1 : (cs.length : Int) > 12
  · rw [decide_eq_true h1, if_pos rfl, if_pos rfl]; exact nope
  rw [decide_eq_false h1, if_neg Bool.false_ne_true]
  by_cases h2 : (peers.length : Int) > 12
  · rw [decide_eq_true h2, if_pos rfl, if_pos rfl]; exact nope
  rw [decide_eq_false h2, if_neg Bool.false_ne_true]
  by_cases h3 : (queue.length : Int) > 100
  · rw [decide_eq_true h3, if_pos rfl, if_pos rfl]; exact nope
  rw [decide_eq_false h3, if_neg Bool.false_ne_true]
  by_cases h4 : (given.length : Int) > 100
  · rw [decide_eq_true h4, if_pos rfl, if_pos rfl]; exact nope
  rw [decide_eq_false h4, if_neg Bool.false_ne_true]
  by_cases h5 : (done.length : Int) > 100
  · rw [decide_eq_true h5, if_pos rfl, if_pos rfl]; exact nope
  rw [decide_eq_false h5, if_neg Bool.false_ne_true]
  by_cases h6 : (undone.length : Int) > 100
  · rw [decide_eq_true h6, if_pos rfl]; exact nope
  rw [decide_eq_false h6, if_neg Bool.false_ne_true]
  generalize hC : ((cs, live, next, tag, new, ph, timer, queue, peers, given, done, undone, junk) : Ct) = C at *
  have e1 : C.1 = cs := by rw [← hC]
  have e2 : C.2.2.2.2.2.2.2.2.1 = peers := by rw [← hC]
  have inner : (∀ i (hi : i < cs.length), cs[i].length ≤ 10 ∧ ∀ l ∈ cs[i], l.length ≤ 60) → ∃ b, f_law21_Few.l3 C 1000 1000 0 = some (b, ()) ∧ (b = true → FewOf C) := by
    intro hr
    rcases loop_or (fun m i => f_law21_Few.l3 C 1000 m (i : Int)) peers.length (fun i => ∀ hi : i < peers.length, peers[i].2.2.2.2.length ≤ 100) (some (true, ())) (some (false, ())) (fun m i hi => by
        simp only [f_law21_Few.l3, f_law21_Few.b3]
        rw [e2, if_pos (by (first | omega | (dsimp only [Ty.T]; omega) | (simp only [decide_eq_true_eq, decide_eq_false_iff_not, Bool.not_eq_true, Ty.T]; omega) | (simp only [decide_eq_true_eq, decide_eq_false_iff_not, Ty.T]; omega) | (simp only [beq_iff_eq, bne_iff_ne, ne_eq, decide_eq_true_eq, Ty.T]; omega))), if_pos (by omega), if_pos (by omega), att_n (e := T23b6) peers i hi, wsucc i (by omega)]
        by_cases hc : (peers[i].2.2.2.2.length : Int) > 100
        · right
          exact if_pos (decide_eq_true hc)
        · left
          exact ⟨fun _ => by omega, if_neg (by simpa using hc)⟩) (fun _ m => by
        simp only [f_law21_Few.l3, f_law21_Few.b3]
        rw [e2, if_neg (by (first | omega | (dsimp only [Ty.T]; omega) | (simp only [decide_eq_true_eq, decide_eq_false_iff_not, Bool.not_eq_true, Ty.T]; omega) | (simp only [decide_eq_true_eq, decide_eq_false_iff_not, Ty.T]; omega) | (simp only [beq_iff_eq, bne_iff_ne, ne_eq, decide_eq_true_eq, Ty.T]; omega)))]) 1000 (by omega) with h | h
    · refine ⟨true, h.2, fun _ => ?_⟩
      rw [← hC]
      exact ⟨by dsimp only; omega, by dsimp only; omega, by dsimp only; omega, by dsimp only; omega, by dsimp only; omega, by dsimp only; omega, fun x hx => by
        obtain ⟨i, hi, rfl⟩ := List.getElem_of_mem hx
        exact hr i hi, fun y hy => by
        obtain ⟨i, hi, rfl⟩ := List.getElem_of_mem hy
        exact h.1 i hi hi⟩
    · exact ⟨false, h, fun k => absurd k (by decide)⟩
  rcases loop_or (fun m i => f_law21_Few.l2 C 1000 m (i : Int)) cs.length (fun i => ∀ hi : i < cs.length, cs[i].length ≤ 10 ∧ ∀ l ∈ cs[i], l.length ≤ 60) (f_law21_Few.l3 C 1000 1000 0) (some (false, ())) (fun m i hi => by
      simp only [f_law21_Few.l2, f_law21_Few.b2]
      rw [e1, if_pos (by (first | omega | (dsimp only [Ty.T]; omega) | (simp only [decide_eq_true_eq, decide_eq_false_iff_not, Bool.not_eq_true, Ty.T]; omega) | (simp only [decide_eq_true_eq, decide_eq_false_iff_not, Ty.T]; omega) | (simp only [beq_iff_eq, bne_iff_ne, ne_eq, decide_eq_true_eq, Ty.T]; omega))), if_pos (by omega), if_pos (by omega), att_n (e := .slice (.slice T1383)) cs i hi, wsucc i (by omega)]
      obtain ⟨b, hb, hb2⟩ := few12 cs[i]
      rw [hb, Option.bind_some]
      cases b with
      | false => right; rfl
      | true => left; exact ⟨fun _ => hb2 rfl, rfl⟩) (fun _ m => by
      simp only [f_law21_Few.l2, f_law21_Few.b2]
      rw [e1, if_neg (by (first | omega | (dsimp only [Ty.T]; omega) | (simp only [decide_eq_true_eq, decide_eq_false_iff_not, Bool.not_eq_true, Ty.T]; omega) | (simp only [decide_eq_true_eq, decide_eq_false_iff_not, Ty.T]; omega) | (simp only [beq_iff_eq, bne_iff_ne, ne_eq, decide_eq_true_eq, Ty.T]; omega)))]) 1000 (by omega) with h | h
  · obtain ⟨b, hb, hb2⟩ := inner fun i hi => h.1 i hi hi
    exact ⟨b, h.2.trans hb, hb2⟩
  · exact ⟨false, h, fun k => absurd k (by decide)⟩
theorem att_mem {e : Ty} (xs : List e.T) {i : Int} (h0 : 0 ≤ i) (h1 : i < (xs.length : Int)) : att e xs i ∈ xs := by
  obtain ⟨j, rfl⟩ : ∃ j : Nat, i = (j : Int) := ⟨i.toNat, by omega⟩
  rw [att_n xs j (by omega)]
  exact List.getElem_mem _
theorem qi_control_controller_two_e61 (x1 : T26b3.T) : i_control_controller_two_e61.f 1000 x1 = some (two x1.2.2.2.2.2.1, ()) := by
  unfold i_control_controller_two_e61.f
  rw [contains_eq [1, 2, 3] x1.2.2.2.2.2.1 (by decide), Option.bind_some]
  exact congrArg (fun b => some (b, ())) (two_any x1.2.2.2.2.2.1)
theorem qi_control_controller_is_1_797 (x1 : Int) (x2 : T26b3.T) : i_control_controller_is_1_797.f 1000 x1 x2 = some (!inR x2.1.length x1, ()) := by
  unfold i_control_controller_is_1_797.f inR
  by_cases h0 : x1 < 0
  · rw [decide_eq_true h0, if_pos rfl, decide_eq_false (by omega)]; rfl
  · rw [decide_eq_false h0, if_neg Bool.false_ne_true]
    by_cases h1 : x1 < (x2.1.length : Int)
    · rw [decide_eq_false (by omega), decide_eq_true (by omega)]; rfl
    · rw [decide_eq_true (by omega), decide_eq_false (by omega)]; rfl
theorem qi_slices_ContainsFunc_int_a51 (x1 : List Int) (x2 : T26b3.T) (h : x1.length < 1000) : i_slices_ContainsFunc_int_a51.f 1000 x1 x2 = some (x1.any (fun q => !inR x2.1.length q), ()) := by
  unfold i_slices_ContainsFunc_int_a51.f i_slices_IndexFunc_int_a51.f
  have hle : x1.findIdx (fun q => !inR x2.1.length q) ≤ x1.length := List.findIdx_le_length
  refine loop (fun m i => (i_slices_IndexFunc_int_a51.l1 x1 x2 1000 m (x1.length : Int) (i : Int)).bind fun y1 => some (decide (y1.1 ≥ (0 : Int)), ())) (x1.findIdx (fun q => !inR x2.1.length q)) _ (fun m i hi => ?_) (fun m => ?_) 1000 (by omega)
  · have hl : i < x1.length := by omega
    have hn := fi_not hi hl
    simp only [i_slices_IndexFunc_int_a51.l1, i_slices_IndexFunc_int_a51.b1]
    rw [if_pos (by (first | omega | (dsimp only [Ty.T]; omega) | (simp only [decide_eq_true_eq, decide_eq_false_iff_not, Bool.not_eq_true, Ty.T]; omega) | (simp only [decide_eq_true_eq, decide_eq_false_iff_not, Ty.T]; omega) | (simp only [beq_iff_eq, bne_iff_ne, ne_eq, decide_eq_true_eq, Ty.T]; omega))), if_pos (by omega), if_pos (by omega), att_n (e := .int .i64) x1 i hl, qi_control_controller_is_1_797, Option.bind_some, if_neg (by rw [Bool.not_eq_true]; exact hn), wsucc i (by omega)]
  · simp only [i_slices_IndexFunc_int_a51.l1, i_slices_IndexFunc_int_a51.b1]
    by_cases hl : x1.findIdx (fun q => !inR x2.1.length q) < x1.length
    · have hy := List.findIdx_getElem (w := hl)
      rw [if_pos (by (first | omega | (dsimp only [Ty.T]; omega) | (simp only [decide_eq_true_eq, decide_eq_false_iff_not, Bool.not_eq_true, Ty.T]; omega) | (simp only [decide_eq_true_eq, decide_eq_false_iff_not, Ty.T]; omega) | (simp only [beq_iff_eq, bne_iff_ne, ne_eq, decide_eq_true_eq, Ty.T]; omega))), if_pos (by omega), if_pos (by omega), att_n (e := .int .i64) x1 _ hl, qi_control_controller_is_1_797, Option.bind_some, if_pos hy, Option.bind_some, decide_eq_true (by omega)]
      exact congrArg (fun b => some (b, ())) (List.any_eq_true.2 ⟨_, List.getElem_mem hl, hy⟩).symm
    · rw [if_neg (by (first | omega | (dsimp only [Ty.T]; omega) | (simp only [decide_eq_true_eq, decide_eq_false_iff_not, Bool.not_eq_true, Ty.T]; omega) | (simp only [decide_eq_true_eq, decide_eq_false_iff_not, Ty.T]; omega) | (simp only [beq_iff_eq, bne_iff_ne, ne_eq, decide_eq_true_eq, Ty.T]; omega))), Option.bind_some, decide_eq_false (by decide)]
      refine congrArg (fun b => some (b, ())) (Eq.symm ?_)
      rw [Bool.eq_false_iff]
      intro hc
      obtain ⟨y, h1, h2⟩ := List.any_eq_true.1 hc
      exact absurd (List.findIdx_lt_length_of_exists ⟨y, h1, h2⟩) hl
theorem qi_control_controller_is_e28 (x1 : T26b3.T) (h : x1.2.2.2.2.2.2.2.1.length < 1000) : i_control_controller_is_e28.f 1000 x1 = some (isB x1.1.length x1.2.1 x1.2.2.1 x1.2.2.2.2.2.1 x1.2.2.2.2.2.2.2.1 x1.2.2.2.2.2.2.2.2.1.length, ()) := by
  unfold i_control_controller_is_e28.f
  have j : ∀ p, i_control_controller_is_e28.j1 x1 1000 p = some (p && (inR x1.1.length x1.2.1 && (!x1.2.2.2.2.2.2.2.1.any (fun q => !inR x1.1.length q) && decide ((x1.2.2.2.2.2.2.2.2.1.length : Int) ≤ 100))), ()) := by
    intro p
    unfold i_control_controller_is_e28.j1
    cases p
    · rfl
    rw [if_pos rfl, qi_control_controller_is_1_797, Option.bind_some, qi_slices_ContainsFunc_int_a51 _ x1 h]
    cases inR x1.1.length x1.2.1
    · rfl
    cases x1.2.2.2.2.2.2.2.1.any (fun q => !inR x1.1.length q)
    · rfl
    · rfl
  simp only [j, qi_control_controller_is_1_797, qi_control_controller_two_e61, Option.bind_some]
  unfold isB
  cases x1.2.2.1 == -1
  · rw [if_neg Bool.false_ne_true]
    cases inR x1.1.length x1.2.2.1 <;> rfl
  · rw [if_pos rfl]
    cases two x1.2.2.2.2.2.1 <;> cases inR x1.1.length x1.2.2.1 <;> rfl
theorem qi_control_controller_two_e28 (x1 : T26b3.T) : i_control_controller_two_e28.f 1000 x1 = some (two x1.2.2.2.2.2.1, ()) := by
  unfold i_control_controller_two_e28.f
  rw [contains_eq [1, 2, 3] x1.2.2.2.2.2.1 (by decide), Option.bind_some]
  exact congrArg (fun b => some (b, ())) (two_any x1.2.2.2.2.2.1)
theorem qi_slices_SortStableFunc_Ver_885 (x1 : T26b3.T) (u v : Vr) : i_slices_SortStableFunc_Ver_885.f 1000 x1 [u, v] = some (if v.1 < u.1 then [v, u] else [u, v], ()) := by
  have hc : ∀ (x3 : T26b3.T) (x4 : List T814c.T), i_control_controller_live_1_5ba.f 1000 v u x3 x4 = some (if v.1 < u.1 then -1 else if v.1 > u.1 then 1 else 0, ()) := by
    intros
    unfold i_control_controller_live_1_5ba.f
    by_cases h1 : v.1 < u.1
    · rw [if_pos (decide_eq_true h1), if_pos h1]
    · rw [if_neg (by rw [decide_eq_false h1]; exact Bool.false_ne_true), if_neg h1]
      by_cases h2 : v.1 > u.1
      · rw [if_pos (decide_eq_true h2), if_pos h2]
      · rw [if_neg (by rw [decide_eq_false h2]; exact Bool.false_ne_true), if_neg h2]
  unfold i_slices_SortStableFunc_Ver_885.f i_slices_stableCmpFunc_Ver_2ec.f i_slices_stableCmpFunc_Ver_2ec.l1
  dsimp only
  unfold i_slices_stableCmpFunc_Ver_2ec.b1
  rw [if_neg (by exact Bool.false_ne_true)]
  unfold i_slices_insertionSortCmpFunc_Ver_2e0.f i_slices_insertionSortCmpFunc_Ver_2e0.l1
  dsimp only
  unfold i_slices_insertionSortCmpFunc_Ver_2e0.b1
  rw [if_pos (by exact rfl)]
  unfold i_slices_insertionSortCmpFunc_Ver_2e0.l2
  dsimp only
  unfold i_slices_insertionSortCmpFunc_Ver_2e0.b2
  rw [if_pos (by exact rfl), if_pos (by exact of_decide_eq_true rfl), if_pos (by exact of_decide_eq_true rfl), if_pos (by exact of_decide_eq_true rfl), if_pos (by exact of_decide_eq_true rfl), show att T814c [u, v] (IntKind.i64.wrap (0 + 1)) = v from rfl, show att T814c [u, v] (IntKind.i64.wrap (IntKind.i64.wrap (0 + 1) - 1)) = u from rfl, hc]
  by_cases h1 : v.1 < u.1
  · rw [if_pos h1, if_pos h1]
    show _ = _
    kernel_rfl
  · rw [if_neg h1, if_neg h1]
    by_cases h2 : v.1 > u.1
    · rw [if_pos h2]
      show _ = _
      kernel_rfl
    · rw [if_neg h2]
      show _ = _
      kernel_rfl
theorem qi_control_controller_flips_ebc (x1 : T26b3.T) (x2 : List T814c.T) : i_control_controller_flips_ebc.f 1000 x1 x2 = some (decide (x1.2.2.2.2.2.1 = 2 ∨ x1.2.2.2.2.2.1 = 3), ()) := by
  unfold i_control_controller_flips_ebc.f
  by_cases h2 : x1.2.2.2.2.2.1 = 2
  · rw [if_pos (beq_iff_eq.2 h2), decide_eq_true (.inl h2)]
  · rw [if_neg (by rw [beq_iff_eq]; exact h2)]
    by_cases h3 : x1.2.2.2.2.2.1 = 3
    · rw [beq_iff_eq.2 h3, decide_eq_true (.inr h3)]
    · rw [beq_eq_false_iff_ne.2 h3, decide_eq_false (by intro h; cases h with | inl h => exact h2 h | inr h => exact h3 h)]
theorem qi_control_controller_flips_e28 (x1 : T26b3.T) : i_control_controller_flips_e28.f 1000 x1 = some (decide (x1.2.2.2.2.2.1 = 2 ∨ x1.2.2.2.2.2.1 = 3), ()) := by
  unfold i_control_controller_flips_e28.f
  by_cases h2 : x1.2.2.2.2.2.1 = 2
  · rw [if_pos (beq_iff_eq.2 h2), decide_eq_true (.inl h2)]
  · rw [if_neg (by rw [beq_iff_eq]; exact h2)]
    by_cases h3 : x1.2.2.2.2.2.1 = 3
    · rw [beq_iff_eq.2 h3, decide_eq_true (.inr h3)]
    · rw [beq_eq_false_iff_ne.2 h3, decide_eq_false (by intro h; cases h with | inl h => exact h2 h | inr h => exact h3 h)]
theorem qi_control_controller_live_258 (x1 : Int) (x2 : T26b3.T) (h0 : 0 ≤ x2.2.1) (h1 : x2.2.1 < (x2.1.length : Int)) (h2 : two x2.2.2.2.2.2.1 = true → 0 ≤ x2.2.2.1 ∧ x2.2.2.1 < (x2.1.length : Int)) (hr : ∀ x ∈ x2.1, ∀ l ∈ x, l.length < 1000000) : i_control_controller_live_258.f 1000 x1 x2 = some (lvs x2.1 x2.2.1 x2.2.2.1 x2.2.2.2.1 x2.2.2.2.2.1 x2.2.2.2.2.2.1 x1, (stampOf x2.2.2.2.1 x2.2.2.2.2.1 x2.2.2.2.2.2.1, ())) := by
  unfold i_control_controller_live_258.f lvs stampOf
  rw [if_pos h0, if_pos h1, conf_at 1000 _ _ (hr _ (att_mem _ h0 h1)), Option.bind_some, qi_control_controller_two_e28, Option.bind_some]
  by_cases ht : two x2.2.2.2.2.2.1 = true
  · obtain ⟨h3, h4⟩ := h2 ht
    rw [if_pos ht, if_pos ht, if_pos h3, if_pos h4, conf_at 1000 _ _ (hr _ (att_mem _ h3 h4)), Option.bind_some, qi_slices_SortStableFunc_Ver_885, Option.bind_some]
    unfold i_control_controller_live_258.j2
    rw [qi_control_controller_flips_ebc, Option.bind_some]
    by_cases hf : x2.2.2.2.2.2.1 = 2 ∨ x2.2.2.2.2.2.1 = 3
    · rw [decide_eq_true hf, if_pos hf]; rfl
    · rw [decide_eq_false hf, if_neg hf]; rfl
  · rw [if_neg ht, if_neg ht]
    unfold i_control_controller_live_258.j3
    rw [qi_control_controller_flips_e28, Option.bind_some]
    by_cases hf : x2.2.2.2.2.2.1 = 2 ∨ x2.2.2.2.2.2.1 = 3
    · rw [decide_eq_true hf, if_pos hf]; rfl
    · rw [decide_eq_false hf, if_neg hf]; rfl
theorem awake21 : f_law21_awake.f 1000 = some (true, ()) := by decide +kernel
theorem inR_iff {n : Nat} {x : Int} : inR n x = true ↔ 0 ≤ x ∧ x < (n : Int) := by unfold inR; exact decide_eq_true_iff
theorem isB_live {nc : Nat} {live next ph : Int} {queue : List Int} {np : Nat} (h : isB nc live next ph queue np = true) : 0 ≤ live ∧ live < (nc : Int) := by
  unfold isB at h
  simp only [Bool.and_eq_true] at h
  exact inR_iff.1 h.2.1
theorem isB_next {nc : Nat} {live next ph : Int} {queue : List Int} {np : Nat} (h : isB nc live next ph queue np = true) (ht : two ph = true) : 0 ≤ next ∧ next < (nc : Int) := by
  unfold isB at h
  rw [ht] at h
  simp only [Bool.and_eq_true, Bool.not_true, Bool.and_false, Bool.false_or] at h
  exact inR_iff.1 h.1
def isC (c : Ct) : Bool := isB c.1.length c.2.1 c.2.2.1 c.2.2.2.2.2.1 c.2.2.2.2.2.2.2.1 c.2.2.2.2.2.2.2.2.1.length
def lvC (c : Ct) (sw : Int) : List Vr := lvs c.1 c.2.1 c.2.2.1 c.2.2.2.1 c.2.2.2.2.1 c.2.2.2.2.2.1 sw
def stC (c : Ct) : Int := stampOf c.2.2.2.1 c.2.2.2.2.1 c.2.2.2.2.2.1
theorem FewC.rl {cs : List (List (List Rl))} {peers : List T23b6.T} {queue done undone : List Int} {given : List T713d.T} (h : FewC cs peers queue done undone given) : ∀ x ∈ cs, ∀ l ∈ x, l.length < 1000000 := fun x hx l hl => by have := (h.r x hx).2 l hl; omega
theorem live_c (c : Ct) (h : FewOf c) (sw : Int) : f_control_Live.f 1000 c sw = some (if isC c = true then (lvC c sw, (stC c, ())) else ([], (0, ()))) := by
  unfold f_control_Live.f
  rw [qi_control_controller_is_e28 c (by have := h.q; omega), Option.bind_some]
  by_cases hc : isC c = true
  · have hb : isB c.1.length c.2.1 c.2.2.1 c.2.2.2.2.2.1 c.2.2.2.2.2.2.2.1 c.2.2.2.2.2.2.2.2.1.length = true := hc
    have hl := isB_live hb
    rw [if_pos hc, if_pos hb, qi_control_controller_live_258 sw c hl.1 hl.2 (fun ht => isB_next hb ht) h.rl, Option.bind_some]
    rfl
  · rw [if_neg hc]
    exact if_neg hc
theorem lvs_cases (cs : List (List (List Rl))) (live next tag new ph sw : Int) : (two ph = false ∧ lvs cs live next tag new ph sw = [(tag, rulesAt (att (.slice (.slice T1383)) cs live) sw)]) ∨ (two ph = true ∧ new < tag ∧ lvs cs live next tag new ph sw = [(new, rulesAt (att (.slice (.slice T1383)) cs next) sw), (tag, rulesAt (att (.slice (.slice T1383)) cs live) sw)]) ∨ (two ph = true ∧ ¬ new < tag ∧ lvs cs live next tag new ph sw = [(tag, rulesAt (att (.slice (.slice T1383)) cs live) sw), (new, rulesAt (att (.slice (.slice T1383)) cs next) sw)]) := by
  unfold lvs
  by_cases h : two ph = true
  · rw [if_pos h]
    by_cases h2 : new < tag
    · rw [if_pos h2]; exact .inr (.inl ⟨h, h2, rfl⟩)
    · rw [if_neg h2]; exact .inr (.inr ⟨h, h2, rfl⟩)
  · rw [if_neg h]; exact .inl ⟨by simpa using h, rfl⟩
theorem stamp_cases (tag new ph : Int) : stampOf tag new ph = tag ∨ two ph = true ∧ stampOf tag new ph = new := by
  unfold stampOf two
  split
  · rename_i h
    right
    rcases h with rfl | rfl <;> exact ⟨rfl, rfl⟩
  · exact .inl rfl
theorem two_end (l : List Vr) (stamp : Int) (hl : l.length = 1 ∨ l.length = 2) (hs : l.any (fun v => v.1 == stamp) = true) (ho : ∀ (h : l.length = 2), (l[0]'(by omega)).1 ≤ l[1].1) : f_law21_ControlTwo.l2 1000 1000 l stamp false 0 = some (true, ()) := by
  have hin : ∀ m i (p : Bool), i < l.length → f_law21_ControlTwo.l2 1000 (m + 1) l stamp p (i : Int) = f_law21_ControlTwo.l2 1000 m l stamp (p || (att T814c l (i : Int)).1 == stamp) ((i + 1 : Nat) : Int) := by
    intro m i p hi
    simp only [f_law21_ControlTwo.l2, f_law21_ControlTwo.b2, f_law21_ControlTwo.j3]
    rw [if_pos (by (first | omega | (dsimp only [Ty.T]; omega) | (simp only [decide_eq_true_eq, decide_eq_false_iff_not, Bool.not_eq_true, Ty.T]; omega) | (simp only [decide_eq_true_eq, decide_eq_false_iff_not, Ty.T]; omega) | (simp only [beq_iff_eq, bne_iff_ne, ne_eq, decide_eq_true_eq, Ty.T]; omega))), wsucc i (by omega)]
    cases p
    · rw [if_neg Bool.false_ne_true, if_pos (by omega), if_pos (by omega)]; rfl
    · rw [if_pos rfl]; rfl
  have hfin : ∀ m, f_law21_ControlTwo.l2 1000 (m + 1) l stamp true (l.length : Int) = some (true, ()) := by
    intro m
    simp only [f_law21_ControlTwo.l2, f_law21_ControlTwo.b2]
    rw [if_neg (by (first | omega | (dsimp only [Ty.T]; omega) | (simp only [decide_eq_true_eq, decide_eq_false_iff_not, Bool.not_eq_true, Ty.T]; omega) | (simp only [decide_eq_true_eq, decide_eq_false_iff_not, Ty.T]; omega) | (simp only [beq_iff_eq, bne_iff_ne, ne_eq, decide_eq_true_eq, Ty.T]; omega))), if_pos (by (first | omega | (dsimp only [Ty.T]; omega) | (simp only [decide_eq_true_eq, decide_eq_false_iff_not, Bool.not_eq_true, Ty.T]; omega) | (simp only [decide_eq_true_eq, decide_eq_false_iff_not, Ty.T]; omega) | (simp only [beq_iff_eq, bne_iff_ne, ne_eq, decide_eq_true_eq, Ty.T]; omega))), if_true]
    rcases hl with h | h
    · rw [if_pos (by (first | omega | (dsimp only [Ty.T]; omega) | (simp only [decide_eq_true_eq, decide_eq_false_iff_not, Bool.not_eq_true, Ty.T]; omega) | (simp only [decide_eq_true_eq, decide_eq_false_iff_not, Ty.T]; omega) | (simp only [beq_iff_eq, bne_iff_ne, ne_eq, decide_eq_true_eq, Ty.T]; omega)))]
    · rw [if_neg (by (first | omega | (dsimp only [Ty.T]; omega) | (simp only [decide_eq_true_eq, decide_eq_false_iff_not, Bool.not_eq_true, Ty.T]; omega) | (simp only [decide_eq_true_eq, decide_eq_false_iff_not, Ty.T]; omega) | (simp only [beq_iff_eq, bne_iff_ne, ne_eq, decide_eq_true_eq, Ty.T]; omega))), if_pos (by omega), if_pos (by omega)]
      have h0 : att T814c l 0 = l[0]'(by omega) := att_n (e := T814c) l 0 (by omega)
      have h1 : att T814c l 1 = l[1]'(by omega) := att_n (e := T814c) l 1 (by omega)
      rw [h0, h1, decide_eq_true (ho h)]
  match l, hl, hs, ho, hin, hfin with
  | [a], _, hs, ho, hin, hfin =>
    have e1 := hin 999 0 false (by simp)
    have ha : (a.1 == stamp) = true := by simpa using hs
    have e2 : (false || (att T814c [a] ((0 : Nat) : Int)).1 == stamp) = true := ha
    rw [e2] at e1
    exact e1.trans (hfin 998)
  | [a, b], _, hs, ho, hin, hfin =>
    have e1 := hin 999 0 false (by simp)
    have e3 := hin 998 1 (false || (att T814c [a, b] ((0 : Nat) : Int)).1 == stamp) (by simp)
    have e2 : ((false || (att T814c [a, b] ((0 : Nat) : Int)).1 == stamp) || (att T814c [a, b] ((1 : Nat) : Int)).1 == stamp) = true := by
      have : (a.1 == stamp || b.1 == stamp) = true := by simpa using hs
      exact this
    rw [e2] at e3
    exact e1.trans (e3.trans (hfin 997))
theorem P_ControlTwo (x0 : Ct) (x1 : Int) (_ : Wf T26b3 x0) (_ : Wf (.int .i64) x1) : ∃ k, f_law21_ControlTwo.f k x0 x1 = some (true, ()) := by
  refine ⟨1000, ?_⟩
  unfold f_law21_ControlTwo.f f_law21_ControlTwo.j1
  obtain ⟨b, hb, hf⟩ := fewC x0
  rw [awake21, Option.bind_some, hb, Option.bind_some, if_neg (show ¬ (!(true, ()).1) = true by decide)]
  cases b with
  | false => rfl
  | true =>
    have h := hf rfl
    rw [if_neg (show ¬ (!(true, ()).1) = true by decide), live_c x0 h, Option.bind_some]
    by_cases hc : isC x0 = true
    · rw [if_pos hc]
      dsimp only
      rcases lvs_cases x0.1 x0.2.1 x0.2.2.1 x0.2.2.2.1 x0.2.2.2.2.1 x0.2.2.2.2.2.1 x1 with ⟨h1, h2⟩ | ⟨h1, h3, h2⟩ | ⟨h1, h3, h2⟩
      · rw [show lvC x0 x1 = _ from h2, if_neg (by exact Bool.false_ne_true)]
        refine two_end _ _ (.inl rfl) ?_ (fun h => absurd h (by exact of_decide_eq_false rfl))
        rcases stamp_cases x0.2.2.2.1 x0.2.2.2.2.1 x0.2.2.2.2.2.1 with h4 | ⟨h4, _⟩
        · rw [show stC x0 = _ from h4]; simp
        · rw [h1] at h4; exact absurd h4 Bool.false_ne_true
      · rw [show lvC x0 x1 = _ from h2, if_neg (by exact Bool.false_ne_true)]
        refine two_end _ _ (.inr rfl) ?_ (fun _ => Int.le_of_lt h3)
        rcases stamp_cases x0.2.2.2.1 x0.2.2.2.2.1 x0.2.2.2.2.2.1 with h4 | ⟨_, h4⟩
        · rw [show stC x0 = _ from h4]; simp
        · rw [show stC x0 = _ from h4]; simp
      · rw [show lvC x0 x1 = _ from h2, if_neg (by exact Bool.false_ne_true)]
        refine two_end _ _ (.inr rfl) ?_ (fun _ => Int.not_lt.1 h3)
        rcases stamp_cases x0.2.2.2.1 x0.2.2.2.2.1 x0.2.2.2.2.2.1 with h4 | ⟨_, h4⟩
        · rw [show stC x0 = _ from h4]; simp
        · rw [show stC x0 = _ from h4]; simp
    · rw [if_neg hc]; rfl
end Go.Proofs.YtkhjemahenkdiaaDoor.V
