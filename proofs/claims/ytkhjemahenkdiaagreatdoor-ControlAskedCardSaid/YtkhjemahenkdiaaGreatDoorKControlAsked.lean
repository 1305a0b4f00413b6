/- What the law needs of plain Lean, and the law itself over it. -/
import Derived.Test.YtkhjemahenkdiaaGreatDoorVF2
import Derived.Test.YtkhjemahenkdiaaGreatDoorVBase
import Derived.IntWalk
import Derived.Test.YtkhjemahenkdiaaGreatDoorVZ
namespace Go.Proofs.YtkhjemahenkdiaaGreatDoor.V
open Go Go.RowKit
set_option synthInstance.maxSize 2000
set_option synthInstance.maxHeartbeats 200000
set_option linter.unusedVariables false
set_option linter.unusedSimpArgs false
set_option maxRecDepth 10000
theorem wsucc (i : Nat) (h : i < 1000000) : IntKind.i64.wrap ((i : Int) + 1) = ((i + 1 : Nat) : Int) := by rw [IntWalk.i64_in _ (by omega)]; omega
theorem att_n {e : Ty} (xs : List e.T) (i : Nat) (h : i < xs.length) : att e xs (i : Int) = xs[i] := by
  unfold att
  rw [Int.toNat_natCast, List.getElem?_eq_getElem h]
  rfl
theorem loop_at {R : Type} (B : Nat → Nat → Option R) (j : Nat) (r : Option R) (step : ∀ m i, i < j → B (m + 1) i = B m (i + 1)) (fin : ∀ m, B (m + 1) j = r) : ∀ d i m, i + d = j → d < m → B m i = r
  | 0, i, m + 1, h, _ => by rw [show i = j by omega]; exact fin m
  | d + 1, i, m + 1, h, hm => by rw [step m i (by omega)]; exact loop_at B j r step fin d (i + 1) m (by omega) (by omega)
theorem loop {R : Type} (B : Nat → Nat → Option R) (j : Nat) (r : Option R) (step : ∀ m i, i < j → B (m + 1) i = B m (i + 1)) (fin : ∀ m, B (m + 1) j = r) (m : Nat) (hm : j < m) : B m 0 = r := loop_at B j r step fin j 0 m (by omega) hm
theorem fi_not {α : Type} {p : α → Bool} {xs : List α} {i : Nat} (hi : i < xs.findIdx p) (hl : i < xs.length) : p xs[i] = false := by simpa using List.not_of_lt_findIdx hi
theorem loop_io {σ R : Type} (B : Nat → Nat → σ → Option R) (I : Nat → σ → Prop) (n : Nat) (r : Option R) (step : ∀ m i s, i < n → I i s → (∃ s', I (i + 1) s' ∧ B (m + 1) i s = B m (i + 1) s') ∨ B (m + 1) i s = r) (fin : ∀ m s, I n s → B (m + 1) n s = r) : ∀ m, n < m → ∀ s, I 0 s → B m 0 s = r := by
  have key : ∀ d i m s, i + d = n → d < m → I i s → B m i s = r := by
    intro d
    induction d with
    | zero =>
      intro i m s h hm hi
      obtain rfl : i = n := by omega
      obtain ⟨m, rfl⟩ : ∃ m', m = m' + 1 := ⟨m - 1, by omega⟩
      exact fin m s hi
    | succ d ih =>
      intro i m s h hm hi
      obtain ⟨m, rfl⟩ : ∃ m', m = m' + 1 := ⟨m - 1, by omega⟩
      rcases step m i s (by omega) hi with ⟨s', h1, h2⟩ | h2
      · rw [h2]
        exact ih (i + 1) m s' (by omega) (by omega) h1
      · exact h2
  exact fun m hm s hs => key n 0 m s (by omega) hm hs
abbrev Rl := T1383.T
def bnd (n : Int) : Int := if 32 < (if 0 > n then 0 else n) then 32 else if 0 > n then 0 else n
theorem bnd_range (n : Int) : 0 ≤ bnd n ∧ bnd n ≤ 32 := by unfold bnd; split <;> split <;> omega
noncomputable def mask (n : Int) : Int := IntKind.i64.wrap (IntKind.u32.wrap (IntKind.u64.wrap (4294967295 * (2 ^ (min (IntKind.i64.wrap (32 - bnd n)).toNat IntKind.u64.bits)))))
theorem mask_eq (k : Nat) (n : Int) : f_bits_Mask.f k n = some (mask n, ()) := by
  have h := bnd_range n
  unfold f_bits_Mask.f f_bits_bound.f
  simp only [Option.bind_some]
  change (if 0 ≤ IntKind.i64.wrap (32 - bnd n) then _ else _) = _
  rw [if_pos (by rw [IntWalk.i64_in _ (by omega)]; omega)]
  rfl
noncomputable def pmay (p : T713d.T) : Bool := decide (p.2 ≥ 0) && (decide (p.2 ≤ 32) && (decide (p.1 ≥ 0) && (decide (p.1 ≤ 4294967295) && IntKind.i64.wrap (((BitVec.ofInt IntKind.i64.bits p.1 &&& ~~~ BitVec.ofInt IntKind.i64.bits (mask p.2)).toNat : Int)) == (0 : Int))))
theorem pmay_eq (k : Nat) (p : T713d.T) : f_bits_May.f k p = some (pmay p, ()) := by
  unfold f_bits_May.f pmay
  simp only [mask_eq, Option.bind_some]
  by_cases h1 : decide (p.2 ≥ 0) = true <;> by_cases h2 : decide (p.2 ≤ 32) = true <;> by_cases h3 : decide (p.1 ≥ 0) = true <;> by_cases h4 : decide (p.1 ≤ 4294967295) = true <;> simp only [h1, h2, h3, h4, if_true, if_false, Bool.true_and, Bool.false_and, Bool.false_eq_true]
def port (r : Rl) : Bool := if ((r.2.2.2.1 == (0 : Int)) && ((r.2.2.2.2 == (0 : Int)) && true)) = true then true else (r.2.2.2.1 == (1 : Int)) && (decide (r.2.2.2.2 ≥ 0) && decide (r.2.2.2.2 ≤ 7))
noncomputable def rmay (r : Rl) : Bool := port r && (pmay r.1 && (decide (r.2.1 ≥ -1) && (decide (r.2.1 ≤ 7) && (decide (r.2.2.1 ≥ 0) && decide (r.2.2.1 ≤ 255)))))
theorem rmay_eq (k : Nat) (r : Rl) : f_rule_May.f k r = some (rmay r, ()) := by
  have hj : ∀ b, f_rule_May.j1 k b r = some (b && (pmay r.1 && (decide (r.2.1 ≥ -1) && (decide (r.2.1 ≤ 7) && (decide (r.2.2.1 ≥ 0) && decide (r.2.2.1 ≤ 255))))), ()) := by
    intro b
    unfold f_rule_May.j1
    simp only [pmay_eq, Option.bind_some]
    cases b <;> cases pmay r.1 <;> by_cases h2 : decide (r.2.1 ≥ -1) = true <;> by_cases h3 : decide (r.2.1 ≤ 7) = true <;> by_cases h4 : decide (r.2.2.1 ≥ 0) = true <;> simp only [h2, h3, h4, if_true, if_false, Bool.true_and, Bool.false_and, Bool.false_eq_true]
  unfold f_rule_May.f rmay port
  simp only [hj]
  by_cases h1 : ((r.2.2.2.1 == (0 : Int)) && ((r.2.2.2.2 == (0 : Int)) && true)) = true
  · rw [if_pos h1, if_pos h1]
  · rw [if_neg h1, if_neg h1]
    by_cases h2 : (r.2.2.2.1 == (1 : Int)) = true <;> by_cases h3 : decide (r.2.2.2.2 ≥ 0) = true <;> simp only [h2, h3, if_true, if_false, Bool.true_and, Bool.false_and, Bool.false_eq_true]
abbrev Tp := T5477.T
abbrev Ed := Int × Int
def epA (l : Td285.T) : Ed := (l.1, l.2.1)
def epB (l : Td285.T) : Ed := l.2.2
def eps : List Td285.T → List Ed
  | [] => []
  | l :: r => epA l :: epB l :: eps r
theorem eps_app : ∀ a b : List Td285.T, eps (a ++ b) = eps a ++ eps b
  | [], b => rfl
  | x :: r, b => by simp only [eps, List.cons_append, eps_app r b]
theorem eps_len : ∀ a : List Td285.T, (eps a).length = 2 * a.length
  | [] => rfl
  | x :: r => by simp only [eps, List.length_cons, eps_len r]; omega
def addk {α : Type} [DecidableEq α] (K : List α) (e : α) : List α := if e ∈ K then K else K ++ [e]
theorem addk_mem {α : Type} [DecidableEq α] (E : List α) : ∀ (K : List α) (x : α), x ∈ E.foldl addk K ↔ x ∈ K ∨ x ∈ E := by
  induction E with
  | nil => intro K x; simp
  | cons e E ih =>
    intro K x
    rw [List.foldl_cons, ih]
    unfold addk
    split
    · rename_i h
      constructor
      · rintro (h1 | h1)
        · exact .inl h1
        · exact .inr (List.mem_cons_of_mem _ h1)
      · rintro (h1 | h1)
        · exact .inl h1
        · rcases List.mem_cons.1 h1 with rfl | h1
          · exact .inl h
          · exact .inr h1
    · simp only [List.mem_append, List.mem_cons, List.not_mem_nil, or_false]
      exact or_assoc
theorem addk_le {α : Type} [DecidableEq α] (E : List α) : ∀ K : List α, (E.foldl addk K).length ≤ K.length + E.length := by
  induction E with
  | nil => intro K; exact Nat.le_refl _
  | cons e E ih =>
    intro K
    rw [List.foldl_cons]
    have h := ih (addk K e)
    have h2 : (addk K e).length ≤ K.length + 1 := by
      unfold addk
      split
      · omega
      · rw [List.length_append]; exact Nat.le_refl _
    simp only [List.length_cons]
    omega
theorem addk_len {α : Type} [DecidableEq α] (E : List α) : ∀ K : List α, K.Nodup → ((E.foldl addk K).length = K.length + E.length ↔ (K ++ E).Nodup) := by
  induction E with
  | nil => intro K h; rw [List.append_nil]; exact ⟨fun _ => h, fun _ => rfl⟩
  | cons e E ih =>
    intro K hK
    rw [List.foldl_cons]
    by_cases h : e ∈ K
    · have h1 : addk K e = K := if_pos h
      rw [h1]
      have h2 := addk_le E K
      simp only [List.length_cons]
      constructor
      · intro h3; omega
      · intro h3
        exact absurd rfl ((List.nodup_append.1 h3).2.2 _ h _ List.mem_cons_self)
    · have h1 : addk K e = K ++ [e] := if_neg h
      rw [h1]
      have hn : (K ++ [e]).Nodup := by
        rw [List.nodup_append]
        refine ⟨hK, by simp, ?_⟩
        intro a ha b hb
        rw [List.mem_singleton] at hb
        rintro rfl
        exact h (hb ▸ ha)
      have h2 := ih _ hn
      rw [List.append_assoc, List.singleton_append, List.length_append, List.length_singleton] at h2
      rw [← h2, List.length_cons]
      omega
theorem nodup_cnt {α : Type} [BEq α] [LawfulBEq α] : ∀ E : List α, E.Nodup ↔ ∀ e ∈ E, E.count e = 1
  | [] => by simp
  | x :: r => by
    rw [List.nodup_cons, nodup_cnt r]
    constructor
    · rintro ⟨h1, h2⟩ e he
      rw [List.count_cons]
      rcases List.mem_cons.1 he with rfl | he
      · rw [List.count_eq_zero.2 h1]; simp
      · have : (x == e) = false := beq_eq_false_iff_ne.2 fun k => h1 (k ▸ he)
        rw [this, h2 e he]; rfl
    · intro h
      have hx : x ∉ r := by
        intro hx
        have h1 := h x List.mem_cons_self
        rw [List.count_cons, beq_self_eq_true, if_pos rfl] at h1
        have := List.count_pos_iff.2 hx
        omega
      refine ⟨hx, fun e he => ?_⟩
      have h1 := h e (List.mem_cons_of_mem _ he)
      rw [List.count_cons, beq_eq_false_iff_ne.2 (fun k => hx (by rw [show x = e from k]; exact he))] at h1
      exact h1
def jput (m : List (Ed × Ed)) (a b : Ed) : List (Ed × Ed) := if a ∈ m.map (·.1) then m else m ++ [(a, b)]
def jst (m : List (Ed × Ed)) (l : Td285.T) : List (Ed × Ed) := jput (jput m (epA l) (epB l)) (epB l) (epA l)
theorem jput_keys (m : List (Ed × Ed)) (a b : Ed) : (jput m a b).map (·.1) = addk (m.map (·.1)) a := by
  unfold jput addk
  split
  · rfl
  · rw [List.map_append]; rfl
theorem jst_keys : ∀ (ls : List Td285.T) (m : List (Ed × Ed)), (ls.foldl jst m).map (·.1) = (eps ls).foldl addk (m.map (·.1))
  | [], m => rfl
  | l :: r, m => by
    rw [List.foldl_cons, jst_keys r]
    unfold jst
    rw [jput_keys, jput_keys]
    rfl
theorem keq_e (a b : Ed) : keq T713d a b = true ↔ a = b := by
  show ((a.1 == b.1) && (a.2 == b.2)) = true ↔ a = b
  rw [Bool.and_eq_true, beq_iff_eq, beq_iff_eq, Prod.ext_iff]
theorem has_e (m : List (Ed × Ed)) (a : Ed) : dmHas (V := T713d) T713d m a = decide (a ∈ m.map (·.1)) := by
  rw [Bool.eq_iff_iff, decide_eq_true_eq]
  unfold dmHas
  rw [List.any_eq_true, List.mem_map]
  constructor
  · rintro ⟨p, h1, h2⟩; exact ⟨p, h1, ((keq_e _ _).1 h2).symm⟩
  · rintro ⟨p, h1, h2⟩; exact ⟨p, h1, (keq_e _ _).2 h2.symm⟩
theorem put_e (m : List (Ed × Ed)) (a b : Ed) (h : ¬ a ∈ m.map (·.1)) : dmPut (V := T713d) T713d m a b = m ++ [(a, b)] := by
  unfold dmPut
  rw [has_e, decide_eq_false h, if_neg Bool.false_ne_true]
theorem joined_eq (t : Tp) (h : t.2.2.length < 999) : h_topo_joined.f 1000 t = some (t.2.2.foldl jst [], ()) := by
  unfold h_topo_joined.f
  refine loop (fun m i => h_topo_joined.l1 1000 m t.2.2 (t.2.2.length : Int) (i : Int) ((t.2.2.take i).foldl jst [])) t.2.2.length _ (fun m i hi => ?_) (fun m => ?_) 1000 (by omega)
  · simp only [h_topo_joined.l1, h_topo_joined.b1]
    rw [if_pos (by (first | omega | (dsimp only [Ty.T]; omega) | (simp only [decide_eq_true_eq, decide_eq_false_iff_not, Bool.not_eq_true, Ty.T]; omega) | (simp only [decide_eq_true_eq, decide_eq_false_iff_not, Ty.T]; omega) | (simp only [beq_iff_eq, bne_iff_ne, ne_eq, decide_eq_true_eq, Ty.T]; omega))), if_pos (by omega), if_pos (by omega), att_n (e := Td285) t.2.2 i hi, List.take_succ_eq_append_getElem hi, List.foldl_append]
    generalize (t.2.2.take i).foldl jst [] = M
    generalize t.2.2[i] = l
    show (f_topo_both.f 1000 l).bind _ = h_topo_joined.l1 1000 m t.2.2 (t.2.2.length : Int) ((i + 1 : Nat) : Int) (jput (jput M (epA l) (epB l)) (epB l) (epA l))
    have g : ∀ M : List (Ed × Ed), h_topo_joined.j3 (h_topo_joined.l1 1000 m) 1000 t.2.2 (t.2.2.length : Int) (i : Int) M (epA l) (epB l) = h_topo_joined.l1 1000 m t.2.2 (t.2.2.length : Int) ((i + 1 : Nat) : Int) (jput M (epB l) (epA l)) := by
      intro M
      unfold h_topo_joined.j3 h_topo_joined.j2 jput
      rw [has_e, wsucc i (by omega)]
      by_cases hm : epB l ∈ M.map (·.1)
      · rw [decide_eq_true hm, if_pos hm]; rfl
      · rw [decide_eq_false hm, if_neg hm, put_e _ _ _ hm]; rfl
    unfold f_topo_both.f
    rw [Option.bind_some]
    show (if (!dmHas (V := T713d) T713d M (epA l)) = true then h_topo_joined.j3 (h_topo_joined.l1 1000 m) 1000 t.2.2 (t.2.2.length : Int) (i : Int) (dmPut (V := T713d) T713d M (epA l) (epB l)) (epA l) (epB l) else h_topo_joined.j3 (h_topo_joined.l1 1000 m) 1000 t.2.2 (t.2.2.length : Int) (i : Int) M (epA l) (epB l)) = _
    rw [g, g, has_e]
    by_cases hm : epA l ∈ M.map (·.1)
    · rw [decide_eq_true hm, if_neg (by decide), show jput M (epA l) (epB l) = M from if_pos hm]
    · rw [decide_eq_false hm, if_pos (by decide), put_e _ _ _ hm, show jput M (epA l) (epB l) = M ++ [(epA l, epB l)] from if_neg hm]
  · simp only [h_topo_joined.l1, h_topo_joined.b1]
    rw [if_neg (by (first | omega | (dsimp only [Ty.T]; omega) | (simp only [decide_eq_true_eq, decide_eq_false_iff_not, Bool.not_eq_true, Ty.T]; omega) | (simp only [decide_eq_true_eq, decide_eq_false_iff_not, Ty.T]; omega) | (simp only [beq_iff_eq, bne_iff_ne, ne_eq, decide_eq_true_eq, Ty.T]; omega))), List.take_length]
def tmay (t : Tp) : Bool := decide (1 ≤ t.1 ∧ t.1 ≤ 6 ∧ 1 ≤ t.2.1 ∧ t.2.1 ≤ 8 ∧ (t.2.2.length : Int) ≤ 12) && ((eps t.2.2).all (fun e => f_topo_May.isB e t) && decide (eps t.2.2).Nodup)
theorem topo_may (t : Tp) (h : t.2.2.length < 999) : f_topo_May.f 1000 t = some (tmay t, ()) := by
  unfold f_topo_May.f tmay
  by_cases hg : t.1 < (1 : Int) ∨ t.1 > (6 : Int) ∨ t.2.1 < (1 : Int) ∨ t.2.1 > (8 : Int) ∨ (t.2.2.length : Int) > (12 : Int)
  · rw [if_pos hg, decide_eq_false (by intro k; obtain ⟨k1, k2, k3, k4, k5⟩ := k; rcases hg with q | q | q | q | q <;> exact absurd q (by first | exact Int.not_lt.2 k1 | exact Int.not_lt.2 k2 | exact Int.not_lt.2 k3 | exact Int.not_lt.2 k4 | exact Int.not_lt.2 k5))]
    rfl
  · rw [if_neg hg, joined_eq t h, Option.bind_some, decide_eq_true (by
      simp only [not_or] at hg
      obtain ⟨k1, k2, k3, k4, k5⟩ := hg
      exact ⟨Int.not_lt.1 k1, Int.not_lt.1 k2, Int.not_lt.1 k3, Int.not_lt.1 k4, Int.not_lt.1 k5⟩), Bool.true_and]
    dsimp only
    refine congrArg (fun b => some (b, ())) ?_
    have hk := jst_keys t.2.2 []
    rw [List.map_nil] at hk
    have h1 : ((t.2.2.foldl jst []).all fun p => f_topo_May.isB p.1 t) = (eps t.2.2).all (fun e => f_topo_May.isB e t) := by
      rw [Bool.eq_iff_iff, List.all_eq_true, List.all_eq_true]
      constructor
      · intro a e he
        have : e ∈ (t.2.2.foldl jst []).map (·.1) := by rw [hk, addk_mem]; exact .inr he
        obtain ⟨p, p1, rfl⟩ := List.mem_map.1 this
        exact a p p1
      · intro a p hp
        have : p.1 ∈ (t.2.2.foldl jst []).map (·.1) := List.mem_map.2 ⟨p, hp, rfl⟩
        rw [hk, addk_mem] at this
        rcases this with this | this
        · cases this
        · exact a _ this
    have h2 : ((((t.2.2.foldl jst []).length : Int)) == 2 * (t.2.2.length : Int)) = decide (eps t.2.2).Nodup := by
      have h3 := addk_len (eps t.2.2) [] List.nodup_nil
      rw [← hk, List.length_map, eps_len, List.nil_append, List.length_nil] at h3
      rw [Bool.eq_iff_iff, beq_iff_eq, decide_eq_true_eq, ← h3]
      omega
    rw [h2]
    exact congrArg (fun b => b && decide (eps t.2.2).Nodup) h1
theorem port_eq (k : Nat) (t : Tp) (a b : Int) : f_ref11_port.f k t a b = some (f_topo_May.isB (a, b) t, ()) := by
  unfold f_ref11_port.f f_topo_May.isB
  cases decide (a ≥ (0 : Int)) <;> cases decide (a < t.1) <;> cases decide (b ≥ (0 : Int)) <;> rfl
theorem ends_eq (t : Tp) (a b : Int) (h : t.2.2.length < 999) : f_ref11_ends.f 1000 t a b = some ((((eps t.2.2).count (a, b) : Nat) : Int), ()) := by
  unfold f_ref11_ends.f
  refine loop (fun m i => f_ref11_ends.l1 t a b 1000 m (((eps (t.2.2.take i)).count (a, b) : Nat) : Int) (i : Int)) t.2.2.length _ (fun m i hi => ?_) (fun m => ?_) 1000 (by omega)
  · simp only [f_ref11_ends.l1, f_ref11_ends.b1]
    rw [if_pos (by (first | omega | (dsimp only [Ty.T]; omega) | (simp only [decide_eq_true_eq, decide_eq_false_iff_not, Bool.not_eq_true, Ty.T]; omega) | (simp only [decide_eq_true_eq, decide_eq_false_iff_not, Ty.T]; omega) | (simp only [beq_iff_eq, bne_iff_ne, ne_eq, decide_eq_true_eq, Ty.T]; omega))), if_pos (by omega), if_pos (by omega), att_n (e := Td285) t.2.2 i hi, List.take_succ_eq_append_getElem hi, eps_app, List.count_append]
    have hc : (eps (t.2.2.take i)).count (a, b) ≤ 2 * 999 := by
      have := List.count_le_length (a := (a, b)) (l := eps (t.2.2.take i))
      rw [eps_len, List.length_take] at this
      omega
    have g5 : ∀ (c : Nat) (q : Bool), c ≤ 1998 → f_ref11_ends.j5 t a b (f_ref11_ends.l1 t a b 1000 m) 1000 (c : Int) (i : Int) q = f_ref11_ends.j4 t a b (f_ref11_ends.l1 t a b 1000 m) 1000 ((c + (if q = true then 1 else 0) : Nat) : Int) (i : Int) := by
      intro c q hcc
      unfold f_ref11_ends.j5
      cases q
      · rw [if_neg Bool.false_ne_true, if_neg Bool.false_ne_true, Nat.add_zero]
      · rw [if_pos rfl, if_pos rfl, wsucc c (by omega)]
    have g3 : ∀ (c : Nat) (q : Bool), c ≤ 2998 → f_ref11_ends.j3 t a b (f_ref11_ends.l1 t a b 1000 m) 1000 (c : Int) (i : Int) q = f_ref11_ends.l1 t a b 1000 m ((c + (if q = true then 1 else 0) : Nat) : Int) ((i + 1 : Nat) : Int) := by
      intro c q hcc
      unfold f_ref11_ends.j3 f_ref11_ends.j2
      rw [wsucc i (by omega)]
      cases q
      · rw [if_neg Bool.false_ne_true, if_neg Bool.false_ne_true]; rfl
      · rw [if_pos rfl, if_pos rfl, wsucc c (by omega)]
    generalize (eps (t.2.2.take i)).count (a, b) = C at hc ⊢
    have hd : att Td285 t.2.2 (i : Int) = t.2.2[i] := att_n (e := Td285) t.2.2 i hi
    generalize t.2.2[i] = l at hd ⊢
    have e1 : (if (l.1 == a) = true then f_ref11_ends.j5 t a b (f_ref11_ends.l1 t a b 1000 m) 1000 (C : Int) (i : Int) (l.2.1 == b) else f_ref11_ends.j5 t a b (f_ref11_ends.l1 t a b 1000 m) 1000 (C : Int) (i : Int) false) = f_ref11_ends.j5 t a b (f_ref11_ends.l1 t a b 1000 m) 1000 (C : Int) (i : Int) ((l.1 == a) && (l.2.1 == b)) := by
      cases l.1 == a <;> rfl
    rw [e1, g5 _ _ hc]
    unfold f_ref11_ends.j4
    rw [if_pos (by omega), if_pos (by omega), hd]
    have e2 : ∀ c : Nat, (if (l.2.2.1 == a) = true then f_ref11_ends.j3 t a b (f_ref11_ends.l1 t a b 1000 m) 1000 (c : Int) (i : Int) (l.2.2.2 == b) else f_ref11_ends.j3 t a b (f_ref11_ends.l1 t a b 1000 m) 1000 (c : Int) (i : Int) false) = f_ref11_ends.j3 t a b (f_ref11_ends.l1 t a b 1000 m) 1000 (c : Int) (i : Int) ((l.2.2.1 == a) && (l.2.2.2 == b)) := by
      intro c
      cases l.2.2.1 == a <;> rfl
    rw [e2, g3 _ _ (by split <;> omega)]
    have e3 : (eps [l]).count (a, b) = (if ((l.1 == a) && (l.2.1 == b)) = true then 1 else 0) + (if ((l.2.2.1 == a) && (l.2.2.2 == b)) = true then 1 else 0) := by
      show ([epA l, epB l]).count (a, b) = _
      rw [List.count_cons, List.count_cons, List.count_nil, Nat.zero_add, Nat.add_comm]
      rfl
    rw [e3, Nat.add_assoc]
  · simp only [f_ref11_ends.l1, f_ref11_ends.b1]
    rw [if_neg (by (first | omega | (dsimp only [Ty.T]; omega) | (simp only [decide_eq_true_eq, decide_eq_false_iff_not, Bool.not_eq_true, Ty.T]; omega) | (simp only [decide_eq_true_eq, decide_eq_false_iff_not, Ty.T]; omega) | (simp only [beq_iff_eq, bne_iff_ne, ne_eq, decide_eq_true_eq, Ty.T]; omega))), List.take_length]
theorem eps_mem : ∀ {ls : List Td285.T} {e : Ed}, e ∈ eps ls ↔ ∃ l ∈ ls, e = epA l ∨ e = epB l
  | [], e => by simp [eps]
  | x :: r, e => by simp only [eps, List.mem_cons, eps_mem (ls := r), exists_eq_or_imp, or_assoc]
theorem ref_tmay (t : Tp) (h : t.2.2.length < 999) : f_ref11_May.f 1000 t = some (tmay t, ()) := by
  unfold f_ref11_May.f
  have hj : ∀ q, f_ref11_May.j1 t 1000 q = some (!q && ((eps t.2.2).all (fun e => f_topo_May.isB e t) && decide (eps t.2.2).Nodup), ()) := by
    intro q
    unfold f_ref11_May.j1
    cases q
    · rw [if_neg Bool.false_ne_true, Bool.not_false, Bool.true_and]
      refine loop_io (fun m i _ => f_ref11_May.l2 t 1000 m (i : Int)) (fun i (_ : Unit) => ∀ l ∈ t.2.2.take i, (f_topo_May.isB (epA l) t = true ∧ (eps t.2.2).count (epA l) = 1) ∧ (f_topo_May.isB (epB l) t = true ∧ (eps t.2.2).count (epB l) = 1)) t.2.2.length _ (fun m i s hi hs => ?_) (fun m s hs => ?_) 1000 (by omega) () (fun l hl => by cases hl)
      · have hm := List.getElem_mem hi
        simp only [f_ref11_May.l2, f_ref11_May.b2]
        rw [if_pos (by (first | omega | (dsimp only [Ty.T]; omega) | (simp only [decide_eq_true_eq, decide_eq_false_iff_not, Bool.not_eq_true, Ty.T]; omega) | (simp only [decide_eq_true_eq, decide_eq_false_iff_not, Ty.T]; omega) | (simp only [beq_iff_eq, bne_iff_ne, ne_eq, decide_eq_true_eq, Ty.T]; omega))), if_pos (by omega), if_pos (by omega), att_n (e := Td285) t.2.2 i hi]
        generalize hl : t.2.2[i] = l at hm
        have no : ¬ ((f_topo_May.isB (epA l) t = true ∧ (eps t.2.2).count (epA l) = 1) ∧ (f_topo_May.isB (epB l) t = true ∧ (eps t.2.2).count (epB l) = 1)) → ((eps t.2.2).all (fun e => f_topo_May.isB e t) && decide (eps t.2.2).Nodup) = false := by
          intro hn
          rw [Bool.eq_false_iff]
          intro hh
          rw [Bool.and_eq_true, decide_eq_true_eq, List.all_eq_true, nodup_cnt] at hh
          have ma : epA l ∈ eps t.2.2 := eps_mem.2 ⟨l, hm, .inl rfl⟩
          have mb : epB l ∈ eps t.2.2 := eps_mem.2 ⟨l, hm, .inr rfl⟩
          exact hn ⟨⟨hh.1 _ ma, hh.2 _ ma⟩, ⟨hh.1 _ mb, hh.2 _ mb⟩⟩
        rw [port_eq, Option.bind_some, port_eq, Option.bind_some, ends_eq _ _ _ h, Option.bind_some, ends_eq _ _ _ h, Option.bind_some]
        simp only [f_ref11_May.j3]
        rw [wsucc i (by omega)]
        show (∃ s', _ ∧ (if (!f_topo_May.isB (epA l) t) = true then (if true = true then some (false, ()) else f_ref11_May.l2 t 1000 m ((i + 1 : Nat) : Int)) else if (!f_topo_May.isB (epB l) t) = true then (if true = true then some (false, ()) else f_ref11_May.l2 t 1000 m ((i + 1 : Nat) : Int)) else if ((((eps t.2.2).count (epA l) : Nat) : Int) != 1) = true then (if true = true then some (false, ()) else f_ref11_May.l2 t 1000 m ((i + 1 : Nat) : Int)) else (if ((((eps t.2.2).count (epB l) : Nat) : Int) != 1) = true then some (false, ()) else f_ref11_May.l2 t 1000 m ((i + 1 : Nat) : Int))) = _) ∨ (if (!f_topo_May.isB (epA l) t) = true then (if true = true then some (false, ()) else f_ref11_May.l2 t 1000 m ((i + 1 : Nat) : Int)) else if (!f_topo_May.isB (epB l) t) = true then (if true = true then some (false, ()) else f_ref11_May.l2 t 1000 m ((i + 1 : Nat) : Int)) else if ((((eps t.2.2).count (epA l) : Nat) : Int) != 1) = true then (if true = true then some (false, ()) else f_ref11_May.l2 t 1000 m ((i + 1 : Nat) : Int)) else (if ((((eps t.2.2).count (epB l) : Nat) : Int) != 1) = true then some (false, ()) else f_ref11_May.l2 t 1000 m ((i + 1 : Nat) : Int))) = _
        by_cases h1 : ¬ f_topo_May.isB (epA l) t = true
        · right; rw [no fun k => h1 k.1.1, if_pos (by rw [Bool.eq_false_iff.2 h1]; rfl), if_pos rfl]
        replace h1 := Decidable.not_not.1 h1
        by_cases h2 : ¬ f_topo_May.isB (epB l) t = true
        · right; rw [no fun k => h2 k.2.1, if_neg (by rw [h1]; decide), if_pos (by rw [Bool.eq_false_iff.2 h2]; rfl), if_pos rfl]
        replace h2 := Decidable.not_not.1 h2
        by_cases h3 : ¬ (eps t.2.2).count (epA l) = 1
        · right; rw [no fun k => h3 k.1.2, if_neg (by rw [h1]; decide), if_neg (by rw [h2]; decide), if_pos (by rw [bne_iff_ne]; omega), if_pos rfl]
        replace h3 := Decidable.not_not.1 h3
        by_cases h4 : ¬ (eps t.2.2).count (epB l) = 1
        · right; rw [no fun k => h4 k.2.2, if_neg (by rw [h1]; decide), if_neg (by rw [h2]; decide), if_neg (by rw [h3]; decide), if_pos (by rw [bne_iff_ne]; omega)]
        replace h4 := Decidable.not_not.1 h4
        left
        refine ⟨(), ?_, by rw [if_neg (by rw [h1]; decide), if_neg (by rw [h2]; decide), if_neg (by rw [h3]; decide), if_neg (by rw [h4]; decide)]⟩
        intro l2 h2'
        rw [List.take_succ_eq_append_getElem hi, hl, List.mem_append, List.mem_singleton] at h2'
        rcases h2' with h2' | rfl
        · exact hs _ h2'
        · exact ⟨⟨h1, h3⟩, ⟨h2, h4⟩⟩
      · simp only [f_ref11_May.l2, f_ref11_May.b2]
        rw [if_neg (by (first | omega | (dsimp only [Ty.T]; omega) | (simp only [decide_eq_true_eq, decide_eq_false_iff_not, Bool.not_eq_true, Ty.T]; omega) | (simp only [decide_eq_true_eq, decide_eq_false_iff_not, Ty.T]; omega) | (simp only [beq_iff_eq, bne_iff_ne, ne_eq, decide_eq_true_eq, Ty.T]; omega)))]
        rw [List.take_length] at hs
        refine congrArg (fun b => some (b, ())) (Eq.symm ?_)
        rw [Bool.and_eq_true, decide_eq_true_eq, List.all_eq_true, nodup_cnt]
        constructor <;> intro e he <;> obtain ⟨l, h1, rfl | rfl⟩ := eps_mem.1 he
        · exact (hs l h1).1.1
        · exact (hs l h1).2.1
        · exact (hs l h1).1.2
        · exact (hs l h1).2.2
    · rw [if_pos rfl]; rfl
  simp only [hj]
  unfold tmay
  generalize ((eps t.2.2).all (fun e => f_topo_May.isB e t) && decide (eps t.2.2).Nodup) = B
  have e : ∀ a1 a2 n : Int, decide (1 ≤ a1 ∧ a1 ≤ 6 ∧ 1 ≤ a2 ∧ a2 ≤ 8 ∧ n ≤ 12) = (!decide (a1 < 1) && !decide (a1 > 6) && !decide (a2 < 1) && !decide (a2 > 8) && !decide (n > 12)) := by
    intro a1 a2 n
    rw [Bool.eq_iff_iff]
    simp only [Bool.and_eq_true, Bool.not_eq_true', decide_eq_true_eq, decide_eq_false_iff_not]
    omega
  rw [e]
  cases decide (t.1 < (1 : Int)) <;> cases decide (t.1 > (6 : Int)) <;> cases decide (t.2.1 < (1 : Int)) <;> cases decide (t.2.1 > (8 : Int)) <;> cases decide ((t.2.2.length : Int) > (12 : Int)) <;> cases B <;> rfl
theorem loop_or {R : Type} (B : Nat → Nat → Option R) (n : Nat) (Q : Nat → Prop) (r a : Option R) (step : ∀ m i, i < n → (Q i ∧ B (m + 1) i = B m (i + 1)) ∨ B (m + 1) i = a) (fin : (∀ i, i < n → Q i) → ∀ m, B (m + 1) n = r) : ∀ m, n < m → ((∀ i, i < n → Q i) ∧ B m 0 = r) ∨ B m 0 = a := by
  have key : ∀ d i m, i + d = n → d < m → (∀ j, j < i → Q j) → ((∀ i, i < n → Q i) ∧ B m i = r) ∨ B m i = a := by
    intro d
    induction d with
    | zero => intro i m h hm hq; obtain rfl : i = n := by omega
              obtain ⟨m, rfl⟩ : ∃ m', m = m' + 1 := ⟨m - 1, by omega⟩
              exact .inl ⟨hq, fin hq m⟩
    | succ d ih =>
      intro i m h hm hq
      obtain ⟨m, rfl⟩ : ∃ m', m = m' + 1 := ⟨m - 1, by omega⟩
      rcases step m i (by omega) with ⟨h1, h2⟩ | h2
      · rw [h2]
        exact ih (i + 1) m (by omega) (by omega) (fun j hj => by rcases Nat.lt_or_eq_of_le (Nat.le_of_lt_succ hj) with h | rfl; exact hq j h; exact h1)
      · exact .inr h2
  intro m hm
  exact key n 0 m (by omega) hm (fun j hj => absurd hj (Nat.not_lt_zero j))
theorem keep_eq (X n : Nat) (hn : n ≤ 32) : X &&& ((2 ^ n - 1) * 2 ^ (32 - n)) = X % 2 ^ 32 / 2 ^ (32 - n) * 2 ^ (32 - n) := by
  apply Nat.eq_of_testBit_eq
  intro j
  rw [Nat.testBit_and, ← Nat.shiftLeft_eq, ← Nat.shiftLeft_eq, Nat.testBit_shiftLeft, Nat.testBit_shiftLeft, Nat.testBit_two_pow_sub_one, Nat.testBit_div_two_pow, Nat.testBit_mod_two_pow]
  by_cases h1 : 32 - n ≤ j
  · have e : j - (32 - n) + (32 - n) = j := by omega
    rw [e]
    by_cases h2 : j < 32
    · have : j - (32 - n) < n := by omega
      simp [h1, h2, this]
    · have : ¬ j - (32 - n) < n := by omega
      simp [h2, this]
  · simp [h1]
theorem mask_vals : ∀ b : Nat, b < 33 → IntKind.i64.wrap (IntKind.u32.wrap (IntKind.u64.wrap (4294967295 * (2 ^ (min (IntKind.i64.wrap (32 - (b : Int))).toNat IntKind.u64.bits))))) = (((2 ^ b - 1) * 2 ^ (32 - b) : Nat) : Int) := by decide +kernel
theorem mask_small (b : Nat) (hb : b ≤ 32) : (2 ^ b - 1) * 2 ^ (32 - b) < 2 ^ 32 := by
  have h1 : 2 ^ b * 2 ^ (32 - b) = 2 ^ 32 := by rw [← Nat.pow_add]; congr 1; omega
  have h2 : 0 < 2 ^ (32 - b) := Nat.two_pow_pos _
  rw [Nat.sub_mul, h1]
  omega
theorem and_mask (a : Int) (b : Nat) (hb : b ≤ 32) : (((BitVec.ofInt 64 a &&& BitVec.ofInt 64 (((2 ^ b - 1) * 2 ^ (32 - b) : Nat) : Int)).toNat : Nat) : Int) = (((a % 4294967296).toNat / 2 ^ (32 - b) * 2 ^ (32 - b) : Nat) : Int) := by
  have hs := mask_small b hb
  rw [BitVec.toNat_and, BitVec.toNat_ofInt, BitVec.toNat_ofInt]
  have h1 : ((((2 ^ b - 1) * 2 ^ (32 - b) : Nat) : Int) % ((2 ^ 64 : Nat) : Int)).toNat = (2 ^ b - 1) * 2 ^ (32 - b) := by
    generalize (2 ^ b - 1) * 2 ^ (32 - b) = m at hs ⊢
    omega
  rw [h1, keep_eq _ b hb]
  have h2 : (a % ((2 ^ 64 : Nat) : Int)).toNat % 2 ^ 32 = (a % 4294967296).toNat := by omega
  rw [h2]
theorem and_low (a : Int) : (((BitVec.ofInt 64 a &&& BitVec.ofInt 64 4294967295).toNat : Nat) : Int) = a % 4294967296 := by
  have h := and_mask a 32 (by omega)
  have e : (((2 ^ 32 - 1) * 2 ^ (32 - 32) : Nat) : Int) = 4294967295 := by decide
  rw [e] at h
  rw [h]
  simp
  omega
theorem and_not_mask (a b : Nat) (ha : a < 2 ^ 32) (hb : b ≤ 32) : (BitVec.ofInt 64 (a : Int) &&& ~~~ BitVec.ofInt 64 (((2 ^ b - 1) * 2 ^ (32 - b) : Nat) : Int)).toNat = a % 2 ^ (32 - b) := by
  apply Nat.eq_of_testBit_eq
  intro j
  rw [BitVec.ofInt_natCast, BitVec.ofInt_natCast]
  rw [← BitVec.getLsbD, BitVec.getLsbD_and, BitVec.getLsbD_not, BitVec.getLsbD_ofNat, BitVec.getLsbD_ofNat, ← Nat.shiftLeft_eq, Nat.testBit_shiftLeft, Nat.testBit_two_pow_sub_one, Nat.testBit_mod_two_pow]
  by_cases h0 : j < 32
  · by_cases h1 : 32 - b ≤ j
    · have h2 : j - (32 - b) < b := by omega
      have h3 : ¬ j < 32 - b := by omega
      simp [h1, h2, h3]
    · have h3 : j < 32 - b := by omega
      have h4 : j < 64 := by omega
      simp [h1, h3, h4]
  · have h5 : a.testBit j = false := Nat.testBit_lt_two_pow (Nat.lt_of_lt_of_le ha (Nat.pow_le_pow_right (by omega) (by omega)))
    simp [h5]
theorem low_zero (a b : Nat) (hb : b ≤ 32) : a % 2 ^ (32 - b) = 0 ↔ ∀ i, b ≤ i → i < 32 → a / 2 ^ (31 - i) % 2 ≠ 1 := by
  constructor
  · intro h i h1 h2 h3
    have ht : a.testBit (31 - i) = true := by rw [Nat.testBit_eq_decide_div_mod_eq]; simpa using h3
    have := Nat.testBit_mod_two_pow a (32 - b) (31 - i)
    rw [h, ht, decide_eq_true (by omega)] at this
    simp at this
  · intro h
    apply Nat.eq_of_testBit_eq
    intro j
    rw [Nat.testBit_mod_two_pow, Nat.zero_testBit]
    by_cases h1 : j < 32 - b
    · have := h (31 - j) (by omega) (by omega)
      rw [show 31 - (31 - j) = j by omega] at this
      rw [Nat.testBit_eq_decide_div_mod_eq, decide_eq_false this, Bool.and_false]
    · simp [h1]
def low (a : Int) : Nat := (a % 4294967296).toNat
theorem low_lt (a : Int) : low a < 4294967296 := by unfold low; omega
theorem half_eq (x : Nat) (h : x < 4294967296) : IntKind.i64.wrap (Int.tdiv (x : Int) 2) = ((x / 2 : Nat) : Int) := by
  rw [IntWalk.i64_quo _ _ ⟨by omega, by omega, by omega⟩]; rfl
theorem bit_eq (k : Nat) (a : Int) (i : Nat) (hi : i < 32) (hk : 100 ≤ k) : f_ref01_Bit.f k a (i : Int) = some (((low a / 2 ^ (31 - i) % 2 : Nat) : Int), ()) := by
  have hlt := low_lt a
  have hA : IntKind.i64.wrap ((((BitVec.ofInt IntKind.i64.bits a &&& BitVec.ofInt IntKind.i64.bits 4294967295).toNat : Nat) : Int)) = (low a : Int) := by
    rw [show ((BitVec.ofInt IntKind.i64.bits a &&& BitVec.ofInt IntKind.i64.bits 4294967295).toNat : Int) = a % 4294967296 from and_low a, IntWalk.i64_in _ (by omega)]
    unfold low
    omega
  unfold f_ref01_Bit.f f_ref01_Bit.j1
  rw [if_neg (by (first | omega | (dsimp only [Ty.T]; omega) | (simp only [decide_eq_true_eq, decide_eq_false_iff_not, Bool.not_eq_true, Ty.T]; omega) | (simp only [decide_eq_true_eq, decide_eq_false_iff_not, Ty.T]; omega) | (simp only [beq_iff_eq, bne_iff_ne, ne_eq, decide_eq_true_eq, Ty.T]; omega))), decide_eq_false (by omega), if_neg (by simp), hA]
  have hdl : ∀ q, low a / 2 ^ q < 4294967296 := fun q => Nat.lt_of_le_of_lt (Nat.div_le_self _ _) hlt
  refine (congrArg (fun z : Int => f_ref01_Bit.l2 k k (i : Int) z 31) (show (low a : Int) = ((low a / 2 ^ 0 : Nat) : Int) by simp)).trans ?_
  refine loop (fun m q => f_ref01_Bit.l2 k m (i : Int) ((low a / 2 ^ q : Nat) : Int) (31 - (q : Int))) (31 - i) _ (fun m q hq => ?_) (fun m => ?_) k (by omega)
  · simp only [f_ref01_Bit.l2, f_ref01_Bit.b2]
    have hw : IntKind.i64.wrap (31 - (q : Int) - 1) = 31 - ((q + 1 : Nat) : Int) := by rw [IntWalk.i64_in _ (by omega)]; omega
    rw [if_pos (by (first | omega | (dsimp only [Ty.T]; omega) | (simp only [decide_eq_true_eq, decide_eq_false_iff_not, Bool.not_eq_true, Ty.T]; omega) | (simp only [decide_eq_true_eq, decide_eq_false_iff_not, Ty.T]; omega) | (simp only [beq_iff_eq, bne_iff_ne, ne_eq, decide_eq_true_eq, Ty.T]; omega))), half_eq _ (hdl q), hw, Nat.div_div_eq_div_mul, ← Nat.pow_succ]
  · simp only [f_ref01_Bit.l2, f_ref01_Bit.b2]
    rw [if_neg (by (first | omega | (dsimp only [Ty.T]; omega) | (simp only [decide_eq_true_eq, decide_eq_false_iff_not, Bool.not_eq_true, Ty.T]; omega) | (simp only [decide_eq_true_eq, decide_eq_false_iff_not, Ty.T]; omega) | (simp only [beq_iff_eq, bne_iff_ne, ne_eq, decide_eq_true_eq, Ty.T]; omega)))]
    rfl
theorem mask_nat (n : Int) (b : Nat) (hb : b ≤ 32) (h : bnd n = (b : Int)) : mask n = (((2 ^ b - 1) * 2 ^ (32 - b) : Nat) : Int) := by
  unfold mask
  rw [h]
  exact mask_vals b (by omega)
theorem rpmay_eq (k : Nat) (p : T713d.T) (hk : 100 ≤ k) : f_ref01_May.f k p = some (pmay p, ()) := by
  unfold f_ref01_May.f f_ref01_May.j1
  by_cases h1 : p.2 < (0 : Int)
  · rw [if_pos (decide_eq_true h1), if_pos rfl]
    unfold pmay
    rw [decide_eq_false (Int.not_le.2 h1)]; rfl
  rw [if_neg (by rw [decide_eq_false h1]; exact Bool.false_ne_true)]
  by_cases h2 : p.2 > (32 : Int)
  · rw [if_pos (decide_eq_true h2), if_pos rfl]
    unfold pmay
    rw [decide_eq_false (p := p.2 ≤ 32) (Int.not_le.2 h2), Bool.false_and, Bool.and_false]
  rw [if_neg (by rw [decide_eq_false h2]; exact Bool.false_ne_true)]
  by_cases h3 : p.1 < (0 : Int)
  · rw [if_pos (decide_eq_true h3), if_pos rfl]
    unfold pmay
    rw [decide_eq_false (p := p.1 ≥ 0) (Int.not_le.2 h3), Bool.false_and, Bool.and_false, Bool.and_false]
  rw [if_neg (by rw [decide_eq_false h3]; exact Bool.false_ne_true)]
  by_cases h4 : p.1 > (4294967295 : Int)
  · rw [decide_eq_true h4, if_pos rfl]
    unfold pmay
    rw [decide_eq_false (p := p.1 ≤ 4294967295) (Int.not_le.2 h4), Bool.false_and, Bool.and_false, Bool.and_false, Bool.and_false]
  rw [decide_eq_false h4, if_neg Bool.false_ne_true]
  obtain ⟨pa, pn⟩ := p
  dsimp only at h1 h2 h3 h4 ⊢
  have g1 : (0 : Int) ≤ pn := Int.not_lt.1 h1
  have g2 : pn ≤ (32 : Int) := Int.not_lt.1 h2
  have g3 : (0 : Int) ≤ pa := Int.not_lt.1 h3
  have g4 : pa ≤ (4294967295 : Int) := Int.not_lt.1 h4
  obtain ⟨a, rfl⟩ : ∃ a : Nat, pa = (a : Int) := ⟨Int.toNat pa, (Int.toNat_of_nonneg g3).symm⟩
  obtain ⟨b, rfl⟩ : ∃ b : Nat, pn = (b : Int) := ⟨Int.toNat pn, (Int.toNat_of_nonneg g1).symm⟩
  have g2' : b ≤ 32 := by have : ((b : Nat) : Int) ≤ 32 := g2; omega
  have g4' : a < 2 ^ 32 := by have : ((a : Nat) : Int) ≤ 4294967295 := g4; omega
  have hb : bnd (b : Int) = (b : Int) := by unfold bnd; rw [if_neg (by omega), if_neg (by omega)]
  have hlow : low (a : Int) = a := by unfold low; omega
  have hand : IntKind.i64.wrap (((BitVec.ofInt IntKind.i64.bits (a : Int) &&& ~~~ BitVec.ofInt IntKind.i64.bits (mask (b : Int))).toNat : Nat) : Int) = ((a % 2 ^ (32 - b) : Nat) : Int) := by
    rw [mask_nat _ b g2' hb, show (BitVec.ofInt IntKind.i64.bits (a : Int) &&& ~~~ BitVec.ofInt IntKind.i64.bits (((2 ^ b - 1) * 2 ^ (32 - b) : Nat) : Int)).toNat = a % 2 ^ (32 - b) from and_not_mask a b g4' g2']
    have : a % 2 ^ (32 - b) ≤ a := Nat.mod_le _ _
    rw [IntWalk.i64_in _ (by omega)]
  have hp : pmay ((a : Int), (b : Int)) = decide (a % 2 ^ (32 - b) = 0) := by
    unfold pmay
    dsimp only
    rw [decide_eq_true (p := (b : Int) ≥ 0) (by omega), decide_eq_true (p := (b : Int) ≤ 32) (by omega), decide_eq_true (p := (a : Int) ≥ 0) (by omega), decide_eq_true (p := (a : Int) ≤ 4294967295) (by omega), hand]
    simp only [Bool.true_and]
    by_cases hz : a % 2 ^ (32 - b) = 0
    · rw [hz]; rfl
    · rw [decide_eq_false hz]
      exact beq_eq_false_iff_ne.2 (by omega)
  rw [hp]
  have hz := low_zero a b g2'
  rcases loop_or (fun m q => f_ref01_May.l2 k m ((b + q : Nat) : Int) ((a : Int), (b : Int))) (32 - b) (fun q => a / 2 ^ (31 - (b + q)) % 2 ≠ 1) (some (true, ())) (some (false, ())) (fun m q hq => by
      simp only [f_ref01_May.l2, f_ref01_May.b2]
      rw [if_pos (by (first | omega | (dsimp only [Ty.T]; omega) | (simp only [decide_eq_true_eq, decide_eq_false_iff_not, Bool.not_eq_true, Ty.T]; omega) | (simp only [decide_eq_true_eq, decide_eq_false_iff_not, Ty.T]; omega) | (simp only [beq_iff_eq, bne_iff_ne, ne_eq, decide_eq_true_eq, Ty.T]; omega))), bit_eq k _ (b + q) (by omega) hk, Option.bind_some, wsucc (b + q) (by omega), hlow]
      by_cases h5 : a / 2 ^ (31 - (b + q)) % 2 = 1
      · exact .inr (if_pos (by rw [h5]; rfl))
      · exact .inl ⟨h5, if_neg (by simp only [beq_iff_eq, Ty.T]; omega)⟩) (fun _ m => by
      simp only [f_ref01_May.l2, f_ref01_May.b2]
      rw [if_neg (by (first | omega | (dsimp only [Ty.T]; omega) | (simp only [decide_eq_true_eq, decide_eq_false_iff_not, Bool.not_eq_true, Ty.T]; omega) | (simp only [decide_eq_true_eq, decide_eq_false_iff_not, Ty.T]; omega) | (simp only [beq_iff_eq, bne_iff_ne, ne_eq, decide_eq_true_eq, Ty.T]; omega)))]) k (by omega) with ⟨h6, h7⟩ | h7
  · have : a % 2 ^ (32 - b) = 0 := hz.2 fun i hi1 hi2 => by
      have := h6 (i - b) (by omega)
      rwa [show b + (i - b) = i by omega] at this
    rw [decide_eq_true this]
    exact h7
  · by_cases h8 : a % 2 ^ (32 - b) = 0
    · have h9 := hz.1 h8
      have : f_ref01_May.l2 k k ((b + 0 : Nat) : Int) ((a : Int), (b : Int)) = some (true, ()) := by
        refine loop (fun m q => f_ref01_May.l2 k m ((b + q : Nat) : Int) ((a : Int), (b : Int))) (32 - b) _ (fun m q hq => ?_) (fun m => ?_) k (by omega)
        · have h5 := h9 (b + q) (by omega) (by omega)
          simp only [f_ref01_May.l2, f_ref01_May.b2]
          rw [if_pos (by (first | omega | (dsimp only [Ty.T]; omega) | (simp only [decide_eq_true_eq, decide_eq_false_iff_not, Bool.not_eq_true, Ty.T]; omega) | (simp only [decide_eq_true_eq, decide_eq_false_iff_not, Ty.T]; omega) | (simp only [beq_iff_eq, bne_iff_ne, ne_eq, decide_eq_true_eq, Ty.T]; omega))), bit_eq k _ (b + q) (by omega) hk, Option.bind_some, wsucc (b + q) (by omega), hlow]
          exact if_neg (by simp only [beq_iff_eq, Ty.T]; omega)
        · simp only [f_ref01_May.l2, f_ref01_May.b2]
          rw [if_neg (by (first | omega | (dsimp only [Ty.T]; omega) | (simp only [decide_eq_true_eq, decide_eq_false_iff_not, Bool.not_eq_true, Ty.T]; omega) | (simp only [decide_eq_true_eq, decide_eq_false_iff_not, Ty.T]; omega) | (simp only [beq_iff_eq, bne_iff_ne, ne_eq, decide_eq_true_eq, Ty.T]; omega)))]
      rw [decide_eq_true h8]
      exact this
    · rw [decide_eq_false h8]
      exact h7
theorem rport_eq (r : Rl) : port r = (if (r.2.2.2.1 == (0 : Int)) = true then (r.2.2.2.2 == (0 : Int)) else if (r.2.2.2.1 == (1 : Int)) = true then (if decide (r.2.2.2.2 ≥ (0 : Int)) = true then decide (r.2.2.2.2 ≤ (7 : Int)) else false) else false) := by
  unfold port
  by_cases h1 : r.2.2.2.1 = (0 : Int)
  · rw [h1]
    by_cases h2 : r.2.2.2.2 = (0 : Int)
    · rw [h2]; rfl
    · rw [beq_eq_false_iff_ne.2 h2]; simp
  · rw [beq_eq_false_iff_ne.2 h1]
    by_cases h3 : r.2.2.2.1 = (1 : Int)
    · rw [beq_iff_eq.2 h3]
      by_cases h4 : decide (r.2.2.2.2 ≥ (0 : Int)) = true
      · rw [h4]; simp
      · rw [Bool.eq_false_iff.2 h4]; simp
    · rw [beq_eq_false_iff_ne.2 h3]; simp
theorem rrmay_eq (k : Nat) (r : Rl) (hk : 100 ≤ k) : f_ref04_May.f k r = some (rmay r, ()) := by
  have hj1 : f_ref04_May.j1 k true r = some (false, ()) := by unfold f_ref04_May.j1; rw [if_pos rfl]
  have hj2 : f_ref04_May.j1 k false r = some (port r, ()) := by
    unfold f_ref04_May.j1
    rw [if_neg Bool.false_ne_true, rport_eq]
    split
    · rfl
    · split
      · split <;> rfl
      · rfl
  unfold f_ref04_May.f rmay
  rw [rpmay_eq k _ hk, Option.bind_some]
  dsimp only
  cases hp : pmay r.1
  · rw [if_pos (by rfl), hj1, Bool.false_and, Bool.and_false]
  · rw [if_neg (by simp)]
    by_cases h1 : r.2.1 < (-1 : Int)
    · rw [if_pos (decide_eq_true h1), hj1, decide_eq_false (p := r.2.1 ≥ -1) (Int.not_le.2 h1)]; simp
    · rw [if_neg (by rw [decide_eq_false h1]; exact Bool.false_ne_true), decide_eq_true (p := r.2.1 ≥ -1) (Int.not_lt.1 h1)]
      by_cases h2 : r.2.1 > (7 : Int)
      · rw [if_pos (decide_eq_true h2), hj1, decide_eq_false (p := r.2.1 ≤ 7) (Int.not_le.2 h2)]; simp
      · rw [if_neg (by rw [decide_eq_false h2]; exact Bool.false_ne_true), decide_eq_true (p := r.2.1 ≤ 7) (Int.not_lt.1 h2)]
        by_cases h3 : r.2.2.1 < (0 : Int)
        · rw [if_pos (decide_eq_true h3), hj1, decide_eq_false (p := r.2.2.1 ≥ 0) (Int.not_le.2 h3)]; simp
        · rw [if_neg (by rw [decide_eq_false h3]; exact Bool.false_ne_true), decide_eq_true (p := r.2.2.1 ≥ 0) (Int.not_lt.1 h3)]
          by_cases h4 : r.2.2.1 > (255 : Int)
          · rw [decide_eq_true h4, hj1, decide_eq_false (p := r.2.2.1 ≤ 255) (Int.not_le.2 h4)]; simp
          · rw [decide_eq_false h4, hj2, decide_eq_true (p := r.2.2.1 ≤ 255) (Int.not_lt.1 h4)]; simp
abbrev Plc := (Int × Int) × (Int × Int)
def plc (r : Rl) : Plc := (r.1, (r.2.1, r.2.2.1))
noncomputable def odd (t : Tp) (r : Rl) : Bool := !rmay r || (decide (r.2.1 ≥ t.2.1) || (r.2.2.2.1 == (1 : Int) && decide (r.2.2.2.2 ≥ t.2.1)))
theorem keq_p (a b : Plc) : keq T16b3 a b = true ↔ a = b := by
  show (((a.1.1 == b.1.1) && (a.1.2 == b.1.2)) && ((a.2.1 == b.2.1) && (a.2.2 == b.2.2))) = true ↔ a = b
  simp only [Bool.and_eq_true, beq_iff_eq, Prod.ext_iff]
theorem set_keys : ∀ (m : List (Plc × Bool)) (x : Plc) (v : Bool), (dmSet (V := .bool) T16b3 m x v).map (·.1) = m.map (·.1)
  | [], x, v => rfl
  | p :: r, x, v => by
    show (if keq T16b3 x p.1 = true then (x, v) :: r else p :: dmSet (V := .bool) T16b3 r x v).map (·.1) = p.1 :: r.map (·.1)
    split
    · rename_i h
      rw [List.map_cons, (keq_p _ _).1 h]
    · rw [List.map_cons, set_keys r]
theorem put_keys (m : List (Plc × Bool)) (x : Plc) (v : Bool) : (dmPut (V := .bool) T16b3 m x v).map (·.1) = addk (m.map (·.1)) x := by
  have hh : dmHas (V := .bool) T16b3 m x = decide (x ∈ m.map (·.1)) := by
    rw [Bool.eq_iff_iff, decide_eq_true_eq]
    unfold dmHas
    rw [List.any_eq_true, List.mem_map]
    constructor
    · rintro ⟨p, h1, h2⟩; exact ⟨p, h1, ((keq_p _ _).1 h2).symm⟩
    · rintro ⟨p, h1, h2⟩; exact ⟨p, h1, (keq_p _ _).2 h2.symm⟩
  show (if dmHas (V := .bool) T16b3 m x = true then dmSet (V := .bool) T16b3 m x v else m ++ [(x, v)]).map (·.1) = _
  unfold addk
  rw [hh]
  by_cases h : x ∈ m.map (·.1)
  · rw [if_pos (decide_eq_true h), if_pos h, set_keys]
  · rw [if_neg (by rw [decide_eq_false h]; exact Bool.false_ne_true), if_neg h, List.map_append]; rfl
def plm (rs : List Rl) : List (Plc × Bool) := rs.foldl (fun m r => dmPut (V := .bool) T16b3 m (plc r) true) []
theorem plm_keys (rs : List Rl) : ∀ m : List (Plc × Bool), (rs.foldl (fun m r => dmPut (V := .bool) T16b3 m (plc r) true) m).map (·.1) = (rs.map plc).foldl addk (m.map (·.1)) := by
  induction rs with
  | nil => intro m; rfl
  | cons r rs ih => intro m; rw [List.foldl_cons, ih, put_keys]; rfl
noncomputable def crv (t : Tp) (rs : List Rl) : Bool := decide ((rs.length : Int) ≤ 40) && (decide (rs.map plc).Nodup && !rs.any (odd t))
theorem odd_eq (k : Nat) (r : Rl) (m : List (T16b3.T × Bool)) (t : Tp) : i_conf_rules_1_8d7.f k r m t = some (odd t r, ()) := by
  unfold i_conf_rules_1_8d7.f odd
  rw [rmay_eq, Option.bind_some]
  cases rmay r <;> cases decide (r.2.1 ≥ t.2.1) <;> cases r.2.2.2.1 == (1 : Int) <;> rfl
theorem odds_eq (rs : List Rl) (m : List (T16b3.T × Bool)) (t : Tp) (h : rs.length < 1000) : i_slices_ContainsFunc_Rule_aa1.f 1000 rs m t = some (rs.any (odd t), ()) := by
  unfold i_slices_ContainsFunc_Rule_aa1.f i_slices_IndexFunc_Rule_aa1.f
  have hle : rs.findIdx (odd t) ≤ rs.length := List.findIdx_le_length
  refine loop (fun q i => (i_slices_IndexFunc_Rule_aa1.l1 rs m t 1000 q (rs.length : Int) (i : Int)).bind fun y1 => some (decide (y1.1 ≥ (0 : Int)), ())) (rs.findIdx (odd t)) _ (fun q i hi => ?_) (fun q => ?_) 1000 (by omega)
  · have hl : i < rs.length := by omega
    have hn := fi_not hi hl
    simp only [i_slices_IndexFunc_Rule_aa1.l1, i_slices_IndexFunc_Rule_aa1.b1]
    rw [if_pos (by (first | omega | (dsimp only [Ty.T]; omega) | (simp only [decide_eq_true_eq, decide_eq_false_iff_not, Bool.not_eq_true, Ty.T]; omega) | (simp only [decide_eq_true_eq, decide_eq_false_iff_not, Ty.T]; omega) | (simp only [beq_iff_eq, bne_iff_ne, ne_eq, decide_eq_true_eq, Ty.T]; omega))), if_pos (by omega), if_pos (by omega), att_n (e := T1383) rs i hl, odd_eq, Option.bind_some, if_neg (by rw [Bool.not_eq_true]; exact hn), wsucc i (by omega)]
  · simp only [i_slices_IndexFunc_Rule_aa1.l1, i_slices_IndexFunc_Rule_aa1.b1]
    by_cases hl : rs.findIdx (odd t) < rs.length
    · have hy := List.findIdx_getElem (w := hl)
      rw [if_pos (by (first | omega | (dsimp only [Ty.T]; omega) | (simp only [decide_eq_true_eq, decide_eq_false_iff_not, Bool.not_eq_true, Ty.T]; omega) | (simp only [decide_eq_true_eq, decide_eq_false_iff_not, Ty.T]; omega) | (simp only [beq_iff_eq, bne_iff_ne, ne_eq, decide_eq_true_eq, Ty.T]; omega))), if_pos (by omega), if_pos (by omega), att_n (e := T1383) rs _ hl, odd_eq, Option.bind_some, if_pos hy, Option.bind_some, decide_eq_true (by omega)]
      exact congrArg (fun b => some (b, ())) (List.any_eq_true.2 ⟨_, List.getElem_mem hl, hy⟩).symm
    · rw [if_neg (by (first | omega | (dsimp only [Ty.T]; omega) | (simp only [decide_eq_true_eq, decide_eq_false_iff_not, Bool.not_eq_true, Ty.T]; omega) | (simp only [decide_eq_true_eq, decide_eq_false_iff_not, Ty.T]; omega) | (simp only [beq_iff_eq, bne_iff_ne, ne_eq, decide_eq_true_eq, Ty.T]; omega))), Option.bind_some, decide_eq_false (by decide)]
      refine congrArg (fun b => some (b, ())) (Eq.symm ?_)
      rw [Bool.eq_false_iff]
      intro hc
      obtain ⟨y, h1, h2⟩ := List.any_eq_true.1 hc
      exact absurd (List.findIdx_lt_length_of_exists ⟨y, h1, h2⟩) hl
theorem rules_eq (t : Tp) (rs : List Rl) (h : rs.length < 1000) : f_conf_rules.f 1000 t rs = some (crv t rs, ()) := by
  unfold f_conf_rules.f
  refine loop (fun m i => f_conf_rules.l1 t rs 1000 m (rs.length : Int) (i : Int) (plm (rs.take i))) rs.length _ (fun m i hi => ?_) (fun m => ?_) 1000 (by omega)
  · simp only [f_conf_rules.l1, f_conf_rules.b1]
    rw [if_pos (by (first | omega | (dsimp only [Ty.T]; omega) | (simp only [decide_eq_true_eq, decide_eq_false_iff_not, Bool.not_eq_true, Ty.T]; omega) | (simp only [decide_eq_true_eq, decide_eq_false_iff_not, Ty.T]; omega) | (simp only [beq_iff_eq, bne_iff_ne, ne_eq, decide_eq_true_eq, Ty.T]; omega))), if_pos (by omega), if_pos (by omega), att_n (e := T1383) rs i hi, List.take_succ_eq_append_getElem hi, wsucc i (by omega)]
    unfold plm
    rw [List.foldl_append]
    rfl
  · simp only [f_conf_rules.l1, f_conf_rules.b1]
    rw [if_neg (by (first | omega | (dsimp only [Ty.T]; omega) | (simp only [decide_eq_true_eq, decide_eq_false_iff_not, Bool.not_eq_true, Ty.T]; omega) | (simp only [decide_eq_true_eq, decide_eq_false_iff_not, Ty.T]; omega) | (simp only [beq_iff_eq, bne_iff_ne, ne_eq, decide_eq_true_eq, Ty.T]; omega))), List.take_length, odds_eq rs _ t h, Option.bind_some]
    have h3 := addk_len (rs.map plc) [] List.nodup_nil
    have hk := plm_keys rs []
    rw [List.map_nil] at hk
    have h4 : (plm rs).length = ((rs.map plc).foldl addk []).length := by
      rw [← hk, List.length_map]; rfl
    rw [← h4, List.length_map, List.nil_append, List.length_nil] at h3
    have h2 : ((((plm rs).length : Int)) == (rs.length : Int)) = decide (rs.map plc).Nodup := by
      rw [Bool.eq_iff_iff, beq_iff_eq, decide_eq_true_eq, ← h3]
      omega
    unfold crv
    cases decide ((rs.length : Int) ≤ (40 : Int))
    · rfl
    rw [if_pos rfl]
    show (if (((plm rs).length : Int) == (rs.length : Int)) = true then _ else _) = _
    rw [h2]
    cases decide (rs.map plc).Nodup <;> rfl
theorem plalike_eq (k : Nat) (a b : Rl) : f_ref04_Alike.f k a b = some (decide (plc a = plc b), ()) := by
  unfold f_ref04_Alike.f
  have e : decide (plc a = plc b) = (((a.1.1 == b.1.1) && ((a.1.2 == b.1.2) && true)) && ((a.2.1 == b.2.1) && (a.2.2.1 == b.2.2.1))) := by
    rw [Bool.eq_iff_iff, decide_eq_true_eq]
    unfold plc
    simp only [Bool.and_eq_true, beq_iff_eq, Prod.ext_iff, and_true]
  rw [e]
  cases ((a.1.1 == b.1.1) && ((a.1.2 == b.1.2) && true)) <;> cases a.2.1 == b.2.1 <;> rfl
theorem nodup_take {α : Type} [DecidableEq α] (xs : List α) (i : Nat) (hi : i < xs.length) (h : (xs.take i).Nodup) (hn : ∀ j (hj : j < i), xs[j]'(by omega) ≠ xs[i]) : (xs.take (i + 1)).Nodup := by
  rw [List.take_succ_eq_append_getElem hi, List.nodup_append]
  refine ⟨h, by simp, ?_⟩
  intro a ha b hb
  rw [List.mem_singleton] at hb
  subst hb
  obtain ⟨j, hj, rfl⟩ := List.getElem_of_mem ha
  rw [List.length_take] at hj
  rw [List.getElem_take]
  exact hn j (by omega)
theorem dup_not {α : Type} (xs : List α) (i j : Nat) (hi : i < xs.length) (hj : j < i) (h : xs[j]'(by omega) = xs[i]) : ¬ xs.Nodup := fun k => by
  rw [List.nodup_iff_pairwise_ne] at k
  exact List.pairwise_iff_getElem.1 k j i (by omega) hi hj h
theorem ref_rules (t : Tp) (rs : List Rl) (h : rs.length < 1000) : f_ref12_rules.f 1000 t rs = some (crv t rs, ()) := by
  unfold f_ref12_rules.f crv
  by_cases h4 : (rs.length : Int) > (40 : Int)
  · rw [if_pos (decide_eq_true h4), decide_eq_false (by omega)]; rfl
  rw [if_neg (by rw [decide_eq_false h4]; exact Bool.false_ne_true), decide_eq_true (by omega), Bool.true_and]
  have hlen : (rs.map plc).length = rs.length := List.length_map _
  refine loop_io (fun m i _ => f_ref12_rules.l1 t rs 1000 m (i : Int)) (fun i (_ : Unit) => (∀ r ∈ rs.take i, odd t r = false) ∧ ((rs.map plc).take i).Nodup) rs.length _ (fun m i s hi hs => ?_) (fun m s hs => ?_) 1000 (by omega) () ⟨fun l hl => (by cases hl), List.nodup_nil⟩
  · simp only [f_ref12_rules.l1, f_ref12_rules.b1]
    rw [if_pos (by (first | omega | (dsimp only [Ty.T]; omega) | (simp only [decide_eq_true_eq, decide_eq_false_iff_not, Bool.not_eq_true, Ty.T]; omega) | (simp only [decide_eq_true_eq, decide_eq_false_iff_not, Ty.T]; omega) | (simp only [beq_iff_eq, bne_iff_ne, ne_eq, decide_eq_true_eq, Ty.T]; omega))), if_pos (by omega), if_pos (by omega), att_n (e := T1383) rs i hi, rrmay_eq 1000 _ (by decide), Option.bind_some]
    have e : (if (!rmay rs[i]) = true then f_ref12_rules.j2 t rs (f_ref12_rules.l1 t rs 1000 m) 1000 (i : Int) true else if (decide (rs[i].2.1 ≥ t.2.1)) = true then f_ref12_rules.j2 t rs (f_ref12_rules.l1 t rs 1000 m) 1000 (i : Int) true else if (rs[i].2.2.2.1 == (1 : Int)) = true then f_ref12_rules.j2 t rs (f_ref12_rules.l1 t rs 1000 m) 1000 (i : Int) (decide (rs[i].2.2.2.2 ≥ t.2.1)) else f_ref12_rules.j2 t rs (f_ref12_rules.l1 t rs 1000 m) 1000 (i : Int) false) = f_ref12_rules.j2 t rs (f_ref12_rules.l1 t rs 1000 m) 1000 (i : Int) (odd t rs[i]) := by
      unfold odd
      cases rmay rs[i] <;> cases decide (rs[i].2.1 ≥ t.2.1) <;> cases rs[i].2.2.2.1 == (1 : Int) <;> rfl
    show (∃ s', _ ∧ (if (!rmay rs[i]) = true then f_ref12_rules.j2 t rs (f_ref12_rules.l1 t rs 1000 m) 1000 (i : Int) true else if (decide (rs[i].2.1 ≥ t.2.1)) = true then f_ref12_rules.j2 t rs (f_ref12_rules.l1 t rs 1000 m) 1000 (i : Int) true else if (rs[i].2.2.2.1 == (1 : Int)) = true then f_ref12_rules.j2 t rs (f_ref12_rules.l1 t rs 1000 m) 1000 (i : Int) (decide (rs[i].2.2.2.2 ≥ t.2.1)) else f_ref12_rules.j2 t rs (f_ref12_rules.l1 t rs 1000 m) 1000 (i : Int) false) = _) ∨ (if (!rmay rs[i]) = true then f_ref12_rules.j2 t rs (f_ref12_rules.l1 t rs 1000 m) 1000 (i : Int) true else if (decide (rs[i].2.1 ≥ t.2.1)) = true then f_ref12_rules.j2 t rs (f_ref12_rules.l1 t rs 1000 m) 1000 (i : Int) true else if (rs[i].2.2.2.1 == (1 : Int)) = true then f_ref12_rules.j2 t rs (f_ref12_rules.l1 t rs 1000 m) 1000 (i : Int) (decide (rs[i].2.2.2.2 ≥ t.2.1)) else f_ref12_rules.j2 t rs (f_ref12_rules.l1 t rs 1000 m) 1000 (i : Int) false) = _
    rw [e]
    by_cases ho : odd t rs[i] = true
    · right
      rw [ho, List.any_eq_true.2 ⟨_, List.getElem_mem hi, ho⟩, Bool.not_true, Bool.and_false]
      exact if_pos rfl
    rw [Bool.eq_false_iff.2 ho]
    unfold f_ref12_rules.j2
    rw [if_neg Bool.false_ne_true]
    by_cases hd : ∃ j, ∃ hj : j < i, (rs.map plc)[j]'(by omega) = (rs.map plc)[i]'(by omega)
    · right
      have hnd : ¬ (rs.map plc).Nodup := by
        obtain ⟨j, hj, he⟩ := hd
        exact dup_not _ i j (by omega) hj he
      rw [decide_eq_false hnd, Bool.false_and]
      refine loop_io (fun q j _ => f_ref12_rules.l3 t rs (f_ref12_rules.l1 t rs 1000 m) 1000 q (i : Int) (j : Int)) (fun j (_ : Unit) => ∀ z (hz : z < j) (hz2 : z < i), (rs.map plc)[z]'(by omega) ≠ (rs.map plc)[i]'(by omega)) i _ (fun q j s hj hs => ?_) (fun q s hs => ?_) 1000 (by omega) () (fun z hz => absurd hz (Nat.not_lt_zero z))
      · simp only [f_ref12_rules.l3, f_ref12_rules.b3]
        rw [if_pos (by (first | omega | (dsimp only [Ty.T]; omega) | (simp only [decide_eq_true_eq, decide_eq_false_iff_not, Bool.not_eq_true, Ty.T]; omega) | (simp only [decide_eq_true_eq, decide_eq_false_iff_not, Ty.T]; omega) | (simp only [beq_iff_eq, bne_iff_ne, ne_eq, decide_eq_true_eq, Ty.T]; omega))), if_pos (by omega), if_pos (by omega), if_pos (by omega), if_pos (by omega), att_n (e := T1383) rs i hi, att_n (e := T1383) rs j (by omega), plalike_eq, Option.bind_some]
        by_cases ha : plc rs[i] = plc rs[j]
        · right
          exact if_pos (decide_eq_true ha)
        · left
          refine ⟨(), ?_, by rw [wsucc j (by omega)]; exact if_neg (by rw [decide_eq_false ha]; exact Bool.false_ne_true)⟩
          intro z hz hz2
          by_cases hzj : z = j
          · subst hzj
            rw [List.getElem_map, List.getElem_map]
            exact fun k => ha k.symm
          · exact hs z (by omega) hz2
      · obtain ⟨j, hj, he⟩ := hd
        exact absurd he (hs j hj hj)
    · left
      have hdn : ∀ j (hj : j < i), (rs.map plc)[j]'(by omega) ≠ (rs.map plc)[i]'(by omega) := fun j hj he => hd ⟨j, hj, he⟩
      refine ⟨(), ⟨?_, nodup_take _ i (by omega) hs.2 hdn⟩, ?_⟩
      · intro r hr
        rw [List.take_succ_eq_append_getElem hi, List.mem_append, List.mem_singleton] at hr
        rcases hr with hr | rfl
        · exact hs.1 r hr
        · exact Bool.eq_false_iff.2 ho
      · refine loop (fun q j => f_ref12_rules.l3 t rs (f_ref12_rules.l1 t rs 1000 m) 1000 q (i : Int) (j : Int)) i _ (fun q j hj => ?_) (fun q => ?_) 1000 (by omega)
        · simp only [f_ref12_rules.l3, f_ref12_rules.b3]
          have ha : plc rs[i] ≠ plc rs[j] := by
            have := hdn j hj
            rw [List.getElem_map, List.getElem_map] at this
            exact fun k => this k.symm
          rw [if_pos (by (first | omega | (dsimp only [Ty.T]; omega) | (simp only [decide_eq_true_eq, decide_eq_false_iff_not, Bool.not_eq_true, Ty.T]; omega) | (simp only [decide_eq_true_eq, decide_eq_false_iff_not, Ty.T]; omega) | (simp only [beq_iff_eq, bne_iff_ne, ne_eq, decide_eq_true_eq, Ty.T]; omega))), if_pos (by omega), if_pos (by omega), if_pos (by omega), if_pos (by omega), att_n (e := T1383) rs i hi, att_n (e := T1383) rs j (by omega), plalike_eq, Option.bind_some, wsucc j (by omega)]
          exact if_neg (by rw [decide_eq_false ha]; exact Bool.false_ne_true)
        · simp only [f_ref12_rules.l3, f_ref12_rules.b3]
          rw [if_neg (by (first | omega | (dsimp only [Ty.T]; omega) | (simp only [decide_eq_true_eq, decide_eq_false_iff_not, Bool.not_eq_true, Ty.T]; omega) | (simp only [decide_eq_true_eq, decide_eq_false_iff_not, Ty.T]; omega) | (simp only [beq_iff_eq, bne_iff_ne, ne_eq, decide_eq_true_eq, Ty.T]; omega))), wsucc i (by omega)]
  · simp only [f_ref12_rules.l1, f_ref12_rules.b1]
    rw [if_neg (by (first | omega | (dsimp only [Ty.T]; omega) | (simp only [decide_eq_true_eq, decide_eq_false_iff_not, Bool.not_eq_true, Ty.T]; omega) | (simp only [decide_eq_true_eq, decide_eq_false_iff_not, Ty.T]; omega) | (simp only [beq_iff_eq, bne_iff_ne, ne_eq, decide_eq_true_eq, Ty.T]; omega)))]
    rw [List.take_length] at hs
    rw [← hlen, List.take_length] at hs
    rw [decide_eq_true hs.2, Bool.true_and]
    refine congrArg (fun b => some (b, ())) (Eq.symm ?_)
    rw [Bool.not_eq_true', Bool.eq_false_iff]
    intro hc
    obtain ⟨y, h1, h2⟩ := List.any_eq_true.1 hc
    rw [hs.1 y h1] at h2
    exact absurd h2 Bool.false_ne_true
noncomputable def cmay (t : Tp) (x : List (List Rl)) : Bool := (tmay t && ((x.length : Int) == t.1)) && x.all (crv t)
theorem all_take {α : Type} {p : α → Bool} {xs : List α} {i : Nat} (hi : i < xs.length) (h : ∀ x ∈ xs.take i, p x = true) (h2 : p xs[i] = true) : ∀ x ∈ xs.take (i + 1), p x = true := by
  intro x hx
  rw [List.take_succ_eq_append_getElem hi, List.mem_append, List.mem_singleton] at hx
  rcases hx with hx | rfl
  · exact h x hx
  · exact h2
theorem conf_may (t : Tp) (ht : t.2.2.length < 999) (x : List (List Rl)) (h : x.length < 1000) (hx : ∀ l ∈ x, l.length < 1000) : f_conf_May.f 1000 t x = some (cmay t x, ()) := by
  unfold f_conf_May.f
  rw [topo_may t ht, Option.bind_some]
  have hj : ∀ q, f_conf_May.j1 t x 1000 q = some (!q && x.all (crv t), ()) := by
    intro q
    unfold f_conf_May.j1
    cases q
    · rw [if_neg Bool.false_ne_true, Bool.not_false, Bool.true_and]
      refine loop_io (fun m i _ => f_conf_May.l2 t x 1000 m (x.length : Int) (i : Int)) (fun i (_ : Unit) => ∀ l ∈ x.take i, crv t l = true) x.length _ (fun m i s hi hs => ?_) (fun m s hs => ?_) 1000 (by omega) () (fun l hl => by cases hl)
      · simp only [f_conf_May.l2, f_conf_May.b2]
        rw [if_pos (by (first | omega | (dsimp only [Ty.T]; omega) | (simp only [decide_eq_true_eq, decide_eq_false_iff_not, Bool.not_eq_true, Ty.T]; omega) | (simp only [decide_eq_true_eq, decide_eq_false_iff_not, Ty.T]; omega) | (simp only [beq_iff_eq, bne_iff_ne, ne_eq, decide_eq_true_eq, Ty.T]; omega))), if_pos (by omega), if_pos (by omega), att_n (e := .slice T1383) x i hi, rules_eq t _ (hx _ (List.getElem_mem hi)), Option.bind_some, wsucc i (by omega)]
        by_cases hc : crv t x[i] = true
        · exact .inl ⟨(), all_take hi hs hc, if_neg (by rw [hc]; decide)⟩
        · right
          rw [if_pos (by rw [Bool.eq_false_iff.2 hc]; rfl)]
          refine congrArg (fun b => some (b, ())) (Eq.symm ?_)
          rw [Bool.eq_false_iff]
          exact fun k => hc (List.all_eq_true.1 k _ (List.getElem_mem hi))
      · simp only [f_conf_May.l2, f_conf_May.b2]
        rw [if_neg (by (first | omega | (dsimp only [Ty.T]; omega) | (simp only [decide_eq_true_eq, decide_eq_false_iff_not, Bool.not_eq_true, Ty.T]; omega) | (simp only [decide_eq_true_eq, decide_eq_false_iff_not, Ty.T]; omega) | (simp only [beq_iff_eq, bne_iff_ne, ne_eq, decide_eq_true_eq, Ty.T]; omega)))]
        rw [List.take_length] at hs
        exact congrArg (fun b => some (b, ())) (List.all_eq_true.2 hs).symm
    · rw [if_pos rfl]; rfl
  rw [hj, hj]
  unfold cmay
  cases tmay t
  · rfl
  · rw [if_neg (by decide), bne, Bool.not_not]; rfl
theorem ref_cmay (t : Tp) (ht : t.2.2.length < 999) (x : List (List Rl)) (h : x.length < 1000) (hx : ∀ l ∈ x, l.length < 1000) : f_ref12_May.f 1000 t x = some (cmay t x, ()) := by
  unfold f_ref12_May.f
  rw [ref_tmay t ht, Option.bind_some]
  have hj : ∀ q, f_ref12_May.j1 t x 1000 q = some (!q && x.all (crv t), ()) := by
    intro q
    unfold f_ref12_May.j1
    cases q
    · rw [if_neg Bool.false_ne_true, Bool.not_false, Bool.true_and]
      refine loop_io (fun m i _ => f_ref12_May.l2 t x 1000 m (i : Int)) (fun i (_ : Unit) => ∀ l ∈ x.take i, crv t l = true) x.length _ (fun m i s hi hs => ?_) (fun m s hs => ?_) 1000 (by omega) () (fun l hl => by cases hl)
      · simp only [f_ref12_May.l2, f_ref12_May.b2]
        rw [if_pos (by (first | omega | (dsimp only [Ty.T]; omega) | (simp only [decide_eq_true_eq, decide_eq_false_iff_not, Bool.not_eq_true, Ty.T]; omega) | (simp only [decide_eq_true_eq, decide_eq_false_iff_not, Ty.T]; omega) | (simp only [beq_iff_eq, bne_iff_ne, ne_eq, decide_eq_true_eq, Ty.T]; omega))), if_pos (by omega), if_pos (by omega), att_n (e := .slice T1383) x i hi, ref_rules t _ (hx _ (List.getElem_mem hi)), Option.bind_some, wsucc i (by omega)]
        by_cases hc : crv t x[i] = true
        · exact .inl ⟨(), all_take hi hs hc, if_neg (by rw [hc]; decide)⟩
        · right
          rw [if_pos (by rw [Bool.eq_false_iff.2 hc]; rfl)]
          refine congrArg (fun b => some (b, ())) (Eq.symm ?_)
          rw [Bool.eq_false_iff]
          exact fun k => hc (List.all_eq_true.1 k _ (List.getElem_mem hi))
      · simp only [f_ref12_May.l2, f_ref12_May.b2]
        rw [if_neg (by (first | omega | (dsimp only [Ty.T]; omega) | (simp only [decide_eq_true_eq, decide_eq_false_iff_not, Bool.not_eq_true, Ty.T]; omega) | (simp only [decide_eq_true_eq, decide_eq_false_iff_not, Ty.T]; omega) | (simp only [beq_iff_eq, bne_iff_ne, ne_eq, decide_eq_true_eq, Ty.T]; omega)))]
        rw [List.take_length] at hs
        exact congrArg (fun b => some (b, ())) (List.all_eq_true.2 hs).symm
    · rw [if_pos rfl]; rfl
  rw [hj, hj]
  unfold cmay
  cases tmay t
  · rfl
  · rw [if_neg (by decide), bne, Bool.not_not]; rfl
abbrev Ct := T26b3.T
def inR (n : Nat) (x : Int) : Bool := decide (0 ≤ x ∧ x < (n : Int))
def two (ph : Int) : Bool := ph == 1 || ph == 2 || ph == 3
def rulesAt (x : List (List Rl)) (sw : Int) : List Rl := if 0 ≤ sw ∧ sw < (x.length : Int) then att (.slice T1383) x sw else []
def isB (nc : Nat) (live next ph : Int) (queue : List Int) (np : Nat) : Bool := ((next == -1 && !two ph) || inR nc next) && (inR nc live && (!queue.any (fun q => !inR nc q) && decide ((np : Int) ≤ 100)))
theorem wsucc2 (i : Nat) (h : i < 9223372036854775807) : IntKind.i64.wrap ((i : Int) + 1) = ((i + 1 : Nat) : Int) := by rw [IntWalk.i64_in _ (by omega)]; omega
theorem index_g (k : Nat) (xs : List Int) (x : Int) (h : xs.length < k) (h2 : xs.length ≤ 9223372036854775807) : f_slices_Index_int.f k xs x = some ((if xs.findIdx (fun y => x == y) < xs.length then ((xs.findIdx (fun y => x == y) : Nat) : Int) else -1), ()) := by
  have hle : xs.findIdx (fun y => x == y) ≤ xs.length := List.findIdx_le_length
  unfold f_slices_Index_int.f
  refine loop (fun m i => f_slices_Index_int.l1 k m xs x (xs.length : Int) (i : Int)) (xs.findIdx (fun y => x == y)) _ (fun m i hi => ?_) (fun m => ?_) k (by omega)
  · have hl : i < xs.length := by omega
    have hn := fi_not hi hl
    simp only [f_slices_Index_int.l1, f_slices_Index_int.b1]
    rw [if_pos (by (first | omega | (dsimp only [Ty.T]; omega) | (simp only [decide_eq_true_eq, decide_eq_false_iff_not, Bool.not_eq_true, Ty.T]; omega) | (simp only [decide_eq_true_eq, decide_eq_false_iff_not, Ty.T]; omega) | (simp only [beq_iff_eq, bne_iff_ne, ne_eq, decide_eq_true_eq, Ty.T]; omega))), if_pos (by omega), if_pos (by omega), att_n (e := .int .i64) xs i hl, if_neg (by rw [Bool.not_eq_true]; exact hn), wsucc2 i (by omega)]
  · simp only [f_slices_Index_int.l1, f_slices_Index_int.b1]
    by_cases hl : xs.findIdx (fun y => x == y) < xs.length
    · have hy := List.findIdx_getElem (w := hl)
      rw [if_pos (by (first | omega | (dsimp only [Ty.T]; omega) | (simp only [decide_eq_true_eq, decide_eq_false_iff_not, Bool.not_eq_true, Ty.T]; omega) | (simp only [decide_eq_true_eq, decide_eq_false_iff_not, Ty.T]; omega) | (simp only [beq_iff_eq, bne_iff_ne, ne_eq, decide_eq_true_eq, Ty.T]; omega))), if_pos (by omega), if_pos (by omega), att_n (e := .int .i64) xs _ hl, if_pos hy, if_pos hl]
    · rw [if_neg (by (first | omega | (dsimp only [Ty.T]; omega) | (simp only [decide_eq_true_eq, decide_eq_false_iff_not, Bool.not_eq_true, Ty.T]; omega) | (simp only [decide_eq_true_eq, decide_eq_false_iff_not, Ty.T]; omega) | (simp only [beq_iff_eq, bne_iff_ne, ne_eq, decide_eq_true_eq, Ty.T]; omega))), if_neg hl]
theorem contains_g (k : Nat) (xs : List Int) (x : Int) (h : xs.length < k) (h2 : xs.length ≤ 9223372036854775807) : f_slices_Contains_int.f k xs x = some (xs.any (fun y => x == y), ()) := by
  unfold f_slices_Contains_int.f
  rw [index_g k xs x h h2, Option.bind_some]
  have key : decide ((if xs.findIdx (fun y => x == y) < xs.length then ((xs.findIdx (fun y => x == y) : Nat) : Int) else -1) ≥ 0) = xs.any (fun y => x == y) := by
    rw [Bool.eq_iff_iff, decide_eq_true_eq, List.any_eq_true]
    by_cases hl : xs.findIdx (fun y => x == y) < xs.length
    · rw [if_pos hl]
      exact ⟨fun _ => ⟨_, List.getElem_mem hl, List.findIdx_getElem (w := hl)⟩, fun _ => by omega⟩
    · rw [if_neg hl]
      exact ⟨fun k => absurd k (by decide), fun ⟨y, h1, h2⟩ => absurd (List.findIdx_lt_length_of_exists ⟨y, h1, h2⟩) hl⟩
  exact congrArg (fun b => some (b, ())) key
theorem contains_eq (xs : List Int) (x : Int) (h : xs.length < 1000) : f_slices_Contains_int.f 1000 xs x = some (xs.any (fun y => x == y), ()) := contains_g 1000 xs x h (by omega)
theorem two_any (ph : Int) : [1, 2, 3].any (fun y => ph == y) = two ph := by
  unfold two
  simp only [List.any_cons, List.any_nil, Bool.or_false, Bool.or_assoc]
theorem clone_g48 (k : Nat) (xs : List Rl) (h : xs.length * 48 ≤ 140737488355328) : f_slices_Clone_Rule.f k xs = some (xs, ()) := by
  unfold f_slices_Clone_Rule.f
  rw [if_pos (by omega), if_pos (Or.inl rfl)]; rfl
theorem conf_g (k : Nat) (x : List (List Rl)) (sw : Int) (h : ∀ l ∈ x, l.length * 48 ≤ 140737488355328) : f_conf_At.f k x sw = some (rulesAt x sw, ()) := by
  unfold f_conf_At.f f_conf_At.j1 rulesAt
  by_cases h0 : sw < 0
  · rw [decide_eq_true h0, if_pos rfl, if_pos rfl, if_neg (by omega)]
  · rw [decide_eq_false h0, if_neg Bool.false_ne_true]
    by_cases h1 : sw < (x.length : Int)
    · obtain ⟨i, rfl⟩ : ∃ i : Nat, sw = (i : Int) := ⟨sw.toNat, by omega⟩
      have hi : i < x.length := by omega
      rw [decide_eq_false (by omega), if_neg Bool.false_ne_true, if_pos (by omega), if_pos h1, if_pos (by omega), att_n (e := .slice T1383) x i hi, clone_g48 k _ (h _ (List.getElem_mem hi))]
      rfl
    · rw [decide_eq_true (by omega), if_pos rfl, if_neg (by omega)]
structure FewC (cs : List (List (List Rl))) (peers : List T23b6.T) (queue done undone : List Int) (given : List T713d.T) : Prop where
  c : cs.length ≤ 12
  p : peers.length ≤ 12
  q : queue.length ≤ 100
  g : given.length ≤ 100
  d : done.length ≤ 100
  u : undone.length ≤ 100
  r : ∀ x ∈ cs, x.length ≤ 10 ∧ ∀ l ∈ x, l.length ≤ 60
  o : ∀ y ∈ peers, y.2.2.2.2.length ≤ 100
abbrev FewOf (c : Ct) : Prop := FewC c.1 c.2.2.2.2.2.2.2.2.1 c.2.2.2.2.2.2.2.1 c.2.2.2.2.2.2.2.2.2.2.1 c.2.2.2.2.2.2.2.2.2.2.2.1 c.2.2.2.2.2.2.2.2.2.1
theorem few12 (x : List (List Rl)) : ∃ b, f_law12_Few.f 1000 x = some (b, ()) ∧ (b = true → x.length ≤ 10 ∧ ∀ l ∈ x, l.length ≤ 60) := by
  unfold f_law12_Few.f
  by_cases h : (x.length : Int) > 10
  · rw [decide_eq_true h, if_pos rfl]
    exact ⟨false, rfl, fun k => absurd k (by decide)⟩
  · rw [decide_eq_false h, if_neg Bool.false_ne_true]
    rcases loop_or (fun m i => f_law12_Few.l1 1000 m x (i : Int)) x.length (fun i => ∀ hi : i < x.length, x[i].length ≤ 60) (some (true, ())) (some (false, ())) (fun m i hi => by
        simp only [f_law12_Few.l1, f_law12_Few.b1]
        rw [if_pos (by (first | omega | (dsimp only [Ty.T]; omega) | (simp only [decide_eq_true_eq, decide_eq_false_iff_not, Bool.not_eq_true, Ty.T]; omega) | (simp only [decide_eq_true_eq, decide_eq_false_iff_not, Ty.T]; omega) | (simp only [beq_iff_eq, bne_iff_ne, ne_eq, decide_eq_true_eq, Ty.T]; omega))), if_pos (by omega), if_pos (by omega), att_n (e := .slice T1383) x i hi, wsucc i (by omega)]
        by_cases hc : (x[i].length : Int) > 60
        · right
          exact if_pos (decide_eq_true hc)
        · left
          exact ⟨fun _ => by omega, if_neg (by simpa using hc)⟩) (fun _ m => by
        simp only [f_law12_Few.l1, f_law12_Few.b1]
        rw [if_neg (by (first | omega | (dsimp only [Ty.T]; omega) | (simp only [decide_eq_true_eq, decide_eq_false_iff_not, Bool.not_eq_true, Ty.T]; omega) | (simp only [decide_eq_true_eq, decide_eq_false_iff_not, Ty.T]; omega) | (simp only [beq_iff_eq, bne_iff_ne, ne_eq, decide_eq_true_eq, Ty.T]; omega)))]) 1000 (by omega) with h | h
    · refine ⟨true, h.2, fun _ => ⟨by omega, fun l hl => ?_⟩⟩
      obtain ⟨i, hi, rfl⟩ := List.getElem_of_mem hl
      exact h.1 i hi hi
    · exact ⟨false, h, fun k => absurd k (by decide)⟩
theorem fewC (c : Ct) : ∃ b, f_law21_Few.f 1000 c = some (b, ()) ∧ (b = true → FewOf c) := by
  obtain ⟨cs, live, next, tag, new, ph, timer, queue, peers, given, done, undone, junk⟩ := c
  have nope : ∃ b, (some (false, ()) : Option f_law21_Few.R) = some (b, ()) ∧ (b = true → FewOf (cs, live, next, tag, new, ph, timer, queue, peers, given, done, undone, junk)) := ⟨false, rfl, fun k => absurd k (by decide)⟩
  unfold f_law21_Few.f f_law21_Few.j1
  dsimp only
  by_cases h1 : (cs.length : Int) > 12
  · rw [decide_eq_true h1, if_pos rfl, if_pos rfl]; exact nope
  rw [decide_eq_false h1, if_neg Bool.false_ne_true]
  by_cases h2 : (peers.length : Int) > 12
  · rw [decide_eq_true h2, if_pos rfl, if_pos rfl]; exact nope
  rw [decide_eq_false h2, if_neg Bool.false_ne_true]
  by_cases h3 : (queue.length : Int) > 100
  · rw [decide_eq_true h3, if_pos rfl, if_pos rfl]; exact nope
  rw [decide_eq_false h3, if_neg Bool.false_ne_true]
  by_cases h4 : (given.length : Int) > 100
  · rw [decide_eq_true h4, if_pos rfl, if_pos rfl]; exact nope
  rw [decide_eq_false h4, if_neg Bool.false_ne_true]
  by_cases h5 : (done.length : Int) > 100
  · rw [decide_eq_true h5, if_pos rfl, if_pos rfl]; exact nope
  rw [decide_eq_false h5, if_neg Bool.false_ne_true]
  by_cases h6 : (undone.length : Int) > 100
  · rw [decide_eq_true h6, if_pos rfl]; exact nope
  rw [decide_eq_false h6, if_neg Bool.false_ne_true]
  generalize hC : ((cs, live, next, tag, new, ph, timer, queue, peers, given, done, undone, junk) : Ct) = C at *
  have e1 : C.1 = cs := by rw [← hC]
  have e2 : C.2.2.2.2.2.2.2.2.1 = peers := by rw [← hC]
  have inner : (∀ i (hi : i < cs.length), cs[i].length ≤ 10 ∧ ∀ l ∈ cs[i], l.length ≤ 60) → ∃ b, f_law21_Few.l3 C 1000 1000 0 = some (b, ()) ∧ (b = true → FewOf C) := by
    intro hr
    rcases loop_or (fun m i => f_law21_Few.l3 C 1000 m (i : Int)) peers.length (fun i => ∀ hi : i < peers.length, peers[i].2.2.2.2.length ≤ 100) (some (true, ())) (some (false, ())) (fun m i hi => by
        simp only [f_law21_Few.l3, f_law21_Few.b3]
        rw [e2, if_pos (by (first | omega | (dsimp only [Ty.T]; omega) | (simp only [decide_eq_true_eq, decide_eq_false_iff_not, Bool.not_eq_true, Ty.T]; omega) | (simp only [decide_eq_true_eq, decide_eq_false_iff_not, Ty.T]; omega) | (simp only [beq_iff_eq, bne_iff_ne, ne_eq, decide_eq_true_eq, Ty.T]; omega))), if_pos (by omega), if_pos (by omega), att_n (e := T23b6) peers i hi, wsucc i (by omega)]
        by_cases hc : (peers[i].2.2.2.2.length : Int) > 100
        · right
          exact if_pos (decide_eq_true hc)
        · left
          exact ⟨fun _ => by omega, if_neg (by simpa using hc)⟩) (fun _ m => by
        simp only [f_law21_Few.l3, f_law21_Few.b3]
        rw [e2, if_neg (by (first | omega | (dsimp only [Ty.T]; omega) | (simp only [decide_eq_true_eq, decide_eq_false_iff_not, Bool.not_eq_true, Ty.T]; omega) | (simp only [decide_eq_true_eq, decide_eq_false_iff_not, Ty.T]; omega) | (simp only [beq_iff_eq, bne_iff_ne, ne_eq, decide_eq_true_eq, Ty.T]; omega)))]) 1000 (by omega) with h | h
    · refine ⟨true, h.2, fun _ => ?_⟩
      rw [← hC]
      exact ⟨by dsimp only; omega, by dsimp only; omega, by dsimp only; omega, by dsimp only; omega, by dsimp only; omega, by dsimp only; omega, fun x hx => by
        obtain ⟨i, hi, rfl⟩ := List.getElem_of_mem hx
        exact hr i hi, fun y hy => by
        obtain ⟨i, hi, rfl⟩ := List.getElem_of_mem hy
        exact h.1 i hi hi⟩
    · exact ⟨false, h, fun k => absurd k (by decide)⟩
  rcases loop_or (fun m i => f_law21_Few.l2 C 1000 m (i : Int)) cs.length (fun i => ∀ hi : i < cs.length, cs[i].length ≤ 10 ∧ ∀ l ∈ cs[i], l.length ≤ 60) (f_law21_Few.l3 C 1000 1000 0) (some (false, ())) (fun m i hi => by
      simp only [f_law21_Few.l2, f_law21_Few.b2]
      rw [e1, if_pos (by (first | omega | (dsimp only [Ty.T]; omega) | (simp only [decide_eq_true_eq, decide_eq_false_iff_not, Bool.not_eq_true, Ty.T]; omega) | (simp only [decide_eq_true_eq, decide_eq_false_iff_not, Ty.T]; omega) | (simp only [beq_iff_eq, bne_iff_ne, ne_eq, decide_eq_true_eq, Ty.T]; omega))), if_pos (by omega), if_pos (by omega), att_n (e := .slice (.slice T1383)) cs i hi, wsucc i (by omega)]
      obtain ⟨b, hb, hb2⟩ := few12 cs[i]
      rw [hb, Option.bind_some]
      cases b with
      | false => right; rfl
      | true => left; exact ⟨fun _ => hb2 rfl, rfl⟩) (fun _ m => by
      simp only [f_law21_Few.l2, f_law21_Few.b2]
      rw [e1, if_neg (by (first | omega | (dsimp only [Ty.T]; omega) | (simp only [decide_eq_true_eq, decide_eq_false_iff_not, Bool.not_eq_true, Ty.T]; omega) | (simp only [decide_eq_true_eq, decide_eq_false_iff_not, Ty.T]; omega) | (simp only [beq_iff_eq, bne_iff_ne, ne_eq, decide_eq_true_eq, Ty.T]; omega)))]) 1000 (by omega) with h | h
  · obtain ⟨b, hb, hb2⟩ := inner fun i hi => h.1 i hi hi
    exact ⟨b, h.2.trans hb, hb2⟩
  · exact ⟨false, h, fun k => absurd k (by decide)⟩
theorem qf_slices_Clone_Rule (a1 : List T1383.T) (h : a1.length < 1000000) : f_slices_Clone_Rule.f 1000 a1 = some (a1, ()) := by
  unfold f_slices_Clone_Rule.f
  rw [if_pos (by omega), if_pos (.inl rfl)]
  rfl
theorem qf_slices_Clone_Msg (a1 : List T4414.T) (h : a1.length < 1000000) : f_slices_Clone_Msg.f 1000 a1 = some (a1, ()) := by
  unfold f_slices_Clone_Msg.f
  rw [if_pos (by omega), if_pos (.inl rfl)]
  rfl
theorem qf_slices_Clone_intO (a1 : List Int) (h : a1.length < 1000000) : f_slices_Clone_intO.f 1000 a1 = some (a1, ()) := by
  unfold f_slices_Clone_intO.f
  rw [if_pos (by omega), if_pos (.inl rfl)]
  rfl
theorem qf_slices_Clone_GivenO (a1 : List T713d.T) (h : a1.length < 1000000) : f_slices_Clone_GivenO.f 1000 a1 = some (a1, ()) := by
  unfold f_slices_Clone_GivenO.f
  rw [if_pos (by omega), if_pos (.inl rfl)]
  rfl
theorem qf_slices_Clone_Conf_RuleO (a1 : List (List T1383.T)) (h : a1.length < 1000000) : f_slices_Clone_Conf_RuleO.f 1000 a1 = some (a1, ()) := by
  unfold f_slices_Clone_Conf_RuleO.f
  rw [if_pos (by omega), if_pos (.inl rfl)]
  rfl
theorem qf_slices_Clone_PeerO (a1 : List T23b6.T) (h : a1.length < 1000000) : f_slices_Clone_PeerO.f 1000 a1 = some (a1, ()) := by
  unfold f_slices_Clone_PeerO.f
  rw [if_pos (by omega), if_pos (.inl rfl)]
  rfl
theorem qf_slices_Clone_ConfO (a1 : List (List (List T1383.T))) (h : a1.length < 1000000) : f_slices_Clone_ConfO.f 1000 a1 = some (a1, ()) := by
  unfold f_slices_Clone_ConfO.f
  rw [if_pos (by omega), if_pos (.inl rfl)]
  rfl
theorem qi_control_own_c1am (x1 : T26b3.T) (x2 : T26b3.T) (x3 : T5477.T) (x4 : Int) (x5 : Int) (x6 : Int) (x7 : Int) (x8 : Int) (x9 : Int) (x10 : Int) (h : FewOf x1) : i_control_own_c1am.f 1000 x1 x2 x3 x4 x5 x6 x7 x8 x9 x10 = some (x1.2.1, (x1.2.2.1, (x1.2.2.2.1, (x1.2.2.2.2.1, (x1.2.2.2.2.2.1, (x1.2.2.2.2.2.2.1, (x1.2.2.2.2.2.2.2.2.2.2.2.2, (x1.1, (x1.2.2.2.2.2.2.2.1, (x1.2.2.2.2.2.2.2.2.1, (x1.2.2.2.2.2.2.2.2.2.1, (x1.2.2.2.2.2.2.2.2.2.2.1, (x1.2.2.2.2.2.2.2.2.2.2.2.1, ()))))))))))))) := by
  have f1 := h.c
  have f2 := h.p
  unfold i_control_own_c1am.f
  rw [qf_slices_Clone_ConfO (h := by omega), Option.bind_some]
  refine loop (fun m i => i_control_own_c1am.l1 x2 x3 x4 x5 x6 x7 x8 x9 x10 1000 m (x1.1.length : Int) (i : Int) x1.2.1 x1.2.2.1 x1.2.2.2.1 x1.2.2.2.2.1 x1.2.2.2.2.2.1 x1.2.2.2.2.2.2.1 x1.2.2.2.2.2.2.2.1 x1.2.2.2.2.2.2.2.2.1 x1.2.2.2.2.2.2.2.2.2.1 x1.2.2.2.2.2.2.2.2.2.2.1 x1.2.2.2.2.2.2.2.2.2.2.2.1 x1.2.2.2.2.2.2.2.2.2.2.2.2 x1.1) x1.1.length _ (fun m i hi => ?_) (fun m => ?_) 1000 (by omega)
  · have hx := h.r _ (List.getElem_mem hi)
    have hx1 : x1.1[i].length ≤ 10 := hx.1
    simp only [i_control_own_c1am.l1, i_control_own_c1am.b1]
    rw [if_pos (by (first | omega | (dsimp only [Ty.T]; omega) | (simp only [decide_eq_true_eq, decide_eq_false_iff_not, Bool.not_eq_true, Ty.T]; omega) | (simp only [decide_eq_true_eq, decide_eq_false_iff_not, Ty.T]; omega) | (simp only [beq_iff_eq, bne_iff_ne, ne_eq, decide_eq_true_eq, Ty.T]; omega))), if_pos (by omega), if_pos (by omega), att_n (e := .slice (.slice T1383)) x1.1 i hi, qf_slices_Clone_Conf_RuleO (h := by omega), Option.bind_some]
    refine loop (fun q j => i_control_own_c1am.l2 x2 x3 x4 x5 x6 x7 x8 x9 x10 (i_control_own_c1am.l1 x2 x3 x4 x5 x6 x7 x8 x9 x10 1000 m) 1000 q (i : Int) (x1.1.length : Int) (i : Int) ((x1.1[i]).length : Int) (j : Int) x1.2.1 x1.2.2.1 x1.2.2.2.1 x1.2.2.2.2.1 x1.2.2.2.2.2.1 x1.2.2.2.2.2.2.1 x1.2.2.2.2.2.2.2.1 x1.2.2.2.2.2.2.2.2.1 x1.2.2.2.2.2.2.2.2.2.1 x1.2.2.2.2.2.2.2.2.2.2.1 x1.2.2.2.2.2.2.2.2.2.2.2.1 x1.2.2.2.2.2.2.2.2.2.2.2.2 x1.1[i] x1.1) (x1.1[i]).length _ (fun q j hj => ?_) (fun q => ?_) 1000 (by omega)
    · have hy := hx.2 _ (List.getElem_mem hj)
      simp only [i_control_own_c1am.l2, i_control_own_c1am.b2]
      rw [if_pos (by (first | omega | (dsimp only [Ty.T]; omega) | (simp only [decide_eq_true_eq, decide_eq_false_iff_not, Bool.not_eq_true, Ty.T]; omega) | (simp only [decide_eq_true_eq, decide_eq_false_iff_not, Ty.T]; omega) | (simp only [beq_iff_eq, bne_iff_ne, ne_eq, decide_eq_true_eq, Ty.T]; omega))), if_pos (by omega), if_pos (by omega), att_n (e := .slice T1383) x1.1[i] j hj, qf_slices_Clone_Rule (h := by omega), Option.bind_some, wsucc j (by omega), Int.toNat_natCast, List.set_getElem_self]
    · simp only [i_control_own_c1am.l2, i_control_own_c1am.b2]
      rw [if_neg (by (first | omega | (dsimp only [Ty.T]; omega) | (simp only [decide_eq_true_eq, decide_eq_false_iff_not, Bool.not_eq_true, Ty.T]; omega) | (simp only [decide_eq_true_eq, decide_eq_false_iff_not, Ty.T]; omega) | (simp only [beq_iff_eq, bne_iff_ne, ne_eq, decide_eq_true_eq, Ty.T]; omega))), if_pos (by omega), if_pos (by omega), wsucc i (by omega), Int.toNat_natCast, List.set_getElem_self]
  · simp only [i_control_own_c1am.l1, i_control_own_c1am.b1]
    rw [if_neg (by (first | omega | (dsimp only [Ty.T]; omega) | (simp only [decide_eq_true_eq, decide_eq_false_iff_not, Bool.not_eq_true, Ty.T]; omega) | (simp only [decide_eq_true_eq, decide_eq_false_iff_not, Ty.T]; omega) | (simp only [beq_iff_eq, bne_iff_ne, ne_eq, decide_eq_true_eq, Ty.T]; omega))), qf_slices_Clone_PeerO (h := by omega), Option.bind_some]
    refine loop (fun m i => i_control_own_c1am.l3 x2 x3 x4 x5 x6 x7 x8 x9 x10 1000 m (x1.2.2.2.2.2.2.2.2.1.length : Int) (i : Int) x1.2.1 x1.2.2.1 x1.2.2.2.1 x1.2.2.2.2.1 x1.2.2.2.2.2.1 x1.2.2.2.2.2.2.1 x1.2.2.2.2.2.2.2.1 x1.2.2.2.2.2.2.2.2.2.1 x1.2.2.2.2.2.2.2.2.2.2.1 x1.2.2.2.2.2.2.2.2.2.2.2.1 x1.2.2.2.2.2.2.2.2.2.2.2.2 x1.1 x1.2.2.2.2.2.2.2.2.1) x1.2.2.2.2.2.2.2.2.1.length _ (fun m i hi => ?_) (fun m => ?_) 1000 (by omega)
    · have hy := h.o _ (List.getElem_mem hi)
      simp only [i_control_own_c1am.l3, i_control_own_c1am.b3]
      rw [if_pos (by (first | omega | (dsimp only [Ty.T]; omega) | (simp only [decide_eq_true_eq, decide_eq_false_iff_not, Bool.not_eq_true, Ty.T]; omega) | (simp only [decide_eq_true_eq, decide_eq_false_iff_not, Ty.T]; omega) | (simp only [beq_iff_eq, bne_iff_ne, ne_eq, decide_eq_true_eq, Ty.T]; omega))), if_pos (by omega), if_pos (by omega), att_n (e := T23b6) x1.2.2.2.2.2.2.2.2.1 i hi, qf_slices_Clone_Msg (h := by omega), Option.bind_some, wsucc i (by omega), Int.toNat_natCast, show x1.2.2.2.2.2.2.2.2.1.set i ((x1.2.2.2.2.2.2.2.2.1[i]).1, ((x1.2.2.2.2.2.2.2.2.1[i]).2.1, ((x1.2.2.2.2.2.2.2.2.1[i]).2.2.1, ((x1.2.2.2.2.2.2.2.2.1[i]).2.2.2.1, (x1.2.2.2.2.2.2.2.2.1[i]).2.2.2.2)))) = x1.2.2.2.2.2.2.2.2.1 from List.set_getElem_self hi]
    · have f3 := h.q
      have f4 := h.g
      have f5 := h.d
      have f6 := h.u
      simp only [i_control_own_c1am.l3, i_control_own_c1am.b3]
      rw [if_neg (by (first | omega | (dsimp only [Ty.T]; omega) | (simp only [decide_eq_true_eq, decide_eq_false_iff_not, Bool.not_eq_true, Ty.T]; omega) | (simp only [decide_eq_true_eq, decide_eq_false_iff_not, Ty.T]; omega) | (simp only [beq_iff_eq, bne_iff_ne, ne_eq, decide_eq_true_eq, Ty.T]; omega))), qf_slices_Clone_intO (h := by omega), Option.bind_some, qf_slices_Clone_GivenO (h := by omega), Option.bind_some, qf_slices_Clone_intO (h := by omega), Option.bind_some, qf_slices_Clone_intO (h := by omega), Option.bind_some]
theorem qi_control_controller_two_cc3 (x1 : T26b3.T) (x2 : T5477.T) (x3 : Int) (x4 : Int) (x5 : Int) (x6 : Int) (x7 : Int) (x8 : Int) (x9 : Int) (x10 : Int) (x11 : Int) (x12 : Int) (x13 : Int) (x14 : Int) (x15 : Int) (x16 : Int) (x17 : List (List (List T1383.T))) (x18 : List Int) (x19 : List T23b6.T) (x20 : List T713d.T) (x21 : List Int) (x22 : List Int) : i_control_controller_two_cc3.f 1000 x1 x2 x3 x4 x5 x6 x7 x8 x9 x10 x11 x12 x13 x14 x15 x16 x17 x18 x19 x20 x21 x22 = some (two x14, ()) := by
  unfold i_control_controller_two_cc3.f
  rw [contains_eq [1, 2, 3] x14 (by decide), Option.bind_some]
  exact congrArg (fun b => some (b, ())) (two_any x14)
theorem qi_control_controller_is_1_249 (x1 : Int) (x2 : T26b3.T) (x3 : T5477.T) (x4 : Int) (x5 : Int) (x6 : Int) (x7 : Int) (x8 : Int) (x9 : Int) (x10 : Int) (x11 : Int) (x12 : Int) (x13 : Int) (x14 : Int) (x15 : Int) (x16 : Int) (x17 : Int) (x18 : List (List (List T1383.T))) (x19 : List Int) (x20 : List T23b6.T) (x21 : List T713d.T) (x22 : List Int) (x23 : List Int) : i_control_controller_is_1_249.f 1000 x1 x2 x3 x4 x5 x6 x7 x8 x9 x10 x11 x12 x13 x14 x15 x16 x17 x18 x19 x20 x21 x22 x23 = some (!inR x18.length x1, ()) := by
  unfold i_control_controller_is_1_249.f inR
  by_cases h0 : x1 < 0
  · rw [decide_eq_true h0, if_pos rfl, decide_eq_false (by omega)]; rfl
  · rw [decide_eq_false h0, if_neg Bool.false_ne_true]
    by_cases h1 : x1 < (x18.length : Int)
    · rw [decide_eq_false (by omega), decide_eq_true (by omega)]; rfl
    · rw [decide_eq_true (by omega), decide_eq_false (by omega)]; rfl
theorem qi_slices_ContainsFunc_int_fc1 (x1 : T26b3.T) (x2 : T5477.T) (x3 : Int) (x4 : Int) (x5 : Int) (x6 : Int) (x7 : Int) (x8 : Int) (x9 : Int) (x10 : Int) (x11 : Int) (x12 : Int) (x13 : Int) (x14 : Int) (x15 : Int) (x16 : Int) (x17 : List (List (List T1383.T))) (x18 : List Int) (x19 : List T23b6.T) (x20 : List T713d.T) (x21 : List Int) (x22 : List Int) (h : x18.length < 1000) : i_slices_ContainsFunc_int_fc1.f 1000 x1 x2 x3 x4 x5 x6 x7 x8 x9 x10 x11 x12 x13 x14 x15 x16 x17 x18 x19 x20 x21 x22 = some (x18.any (fun q => !inR x17.length q), ()) := by
  unfold i_slices_ContainsFunc_int_fc1.f i_slices_IndexFunc_int_fc1.f
  have hle : x18.findIdx (fun q => !inR x17.length q) ≤ x18.length := List.findIdx_le_length
  refine loop (fun m i => (i_slices_IndexFunc_int_fc1.l1 x1 x2 x3 x4 x5 x6 x7 x8 x9 x10 x11 x12 x13 x14 x15 x16 x17 x18 x19 x20 x21 x22 1000 m (x18.length : Int) (i : Int)).bind fun y1 => some (decide (y1.1 ≥ (0 : Int)), ())) (x18.findIdx (fun q => !inR x17.length q)) _ (fun m i hi => ?_) (fun m => ?_) 1000 (by omega)
  · have hl : i < x18.length := by omega
    have hn := fi_not hi hl
    simp only [i_slices_IndexFunc_int_fc1.l1, i_slices_IndexFunc_int_fc1.b1]
    rw [if_pos (by (first | omega | (dsimp only [Ty.T]; omega) | (simp only [decide_eq_true_eq, decide_eq_false_iff_not, Bool.not_eq_true, Ty.T]; omega) | (simp only [decide_eq_true_eq, decide_eq_false_iff_not, Ty.T]; omega) | (simp only [beq_iff_eq, bne_iff_ne, ne_eq, decide_eq_true_eq, Ty.T]; omega))), if_pos (by omega), if_pos (by omega), att_n (e := .int .i64) x18 i hl, qi_control_controller_is_1_249, Option.bind_some, if_neg (by rw [Bool.not_eq_true]; exact hn), wsucc i (by omega)]
  · simp only [i_slices_IndexFunc_int_fc1.l1, i_slices_IndexFunc_int_fc1.b1]
    by_cases hl : x18.findIdx (fun q => !inR x17.length q) < x18.length
    · have hy := List.findIdx_getElem (w := hl)
      rw [if_pos (by (first | omega | (dsimp only [Ty.T]; omega) | (simp only [decide_eq_true_eq, decide_eq_false_iff_not, Bool.not_eq_true, Ty.T]; omega) | (simp only [decide_eq_true_eq, decide_eq_false_iff_not, Ty.T]; omega) | (simp only [beq_iff_eq, bne_iff_ne, ne_eq, decide_eq_true_eq, Ty.T]; omega))), if_pos (by omega), if_pos (by omega), att_n (e := .int .i64) x18 _ hl, qi_control_controller_is_1_249, Option.bind_some, if_pos hy, Option.bind_some, decide_eq_true (by omega)]
      exact congrArg (fun b => some (b, ())) (List.any_eq_true.2 ⟨_, List.getElem_mem hl, hy⟩).symm
    · rw [if_neg (by (first | omega | (dsimp only [Ty.T]; omega) | (simp only [decide_eq_true_eq, decide_eq_false_iff_not, Bool.not_eq_true, Ty.T]; omega) | (simp only [decide_eq_true_eq, decide_eq_false_iff_not, Ty.T]; omega) | (simp only [beq_iff_eq, bne_iff_ne, ne_eq, decide_eq_true_eq, Ty.T]; omega))), Option.bind_some, decide_eq_false (by decide)]
      refine congrArg (fun b => some (b, ())) (Eq.symm ?_)
      rw [Bool.eq_false_iff]
      intro hc
      obtain ⟨y, h1, h2⟩ := List.any_eq_true.1 hc
      exact absurd (List.findIdx_lt_length_of_exists ⟨y, h1, h2⟩) hl
theorem qi_control_controller_is_ac1 (x1 : T26b3.T) (x2 : T5477.T) (x3 : Int) (x4 : Int) (x5 : Int) (x6 : Int) (x7 : Int) (x8 : Int) (x9 : Int) (x10 : Int) (x11 : Int) (x12 : Int) (x13 : Int) (x14 : Int) (x15 : Int) (x16 : Int) (x17 : List (List (List T1383.T))) (x18 : List Int) (x19 : List T23b6.T) (x20 : List T713d.T) (x21 : List Int) (x22 : List Int) (h : x18.length < 1000) : i_control_controller_is_ac1.f 1000 x1 x2 x3 x4 x5 x6 x7 x8 x9 x10 x11 x12 x13 x14 x15 x16 x17 x18 x19 x20 x21 x22 = some (isB x17.length x10 x11 x14 x18 x19.length, ()) := by
  unfold i_control_controller_is_ac1.f
  have j : ∀ p, i_control_controller_is_ac1.j1 x1 x2 x3 x4 x5 x6 x7 x8 x9 x10 x11 x12 x13 x14 x15 x16 x17 x18 x19 x20 x21 x22 1000 p = some (p && (inR x17.length x10 && (!x18.any (fun q => !inR x17.length q) && decide ((x19.length : Int) ≤ 100))), ()) := by
    intro p
    unfold i_control_controller_is_ac1.j1
    cases p
    · rfl
    rw [if_pos rfl, qi_control_controller_is_1_249, Option.bind_some, qi_slices_ContainsFunc_int_fc1 (h := h)]
    cases inR x17.length x10
    · rfl
    cases x18.any (fun q => !inR x17.length q)
    · rfl
    · rfl
  simp only [j, qi_control_controller_is_1_249, qi_control_controller_two_cc3, Option.bind_some]
  unfold isB
  cases x11 == -1
  · rw [if_neg Bool.false_ne_true]
    cases inR x17.length x11 <;> rfl
  · rw [if_pos rfl]
    cases two x14 <;> cases inR x17.length x11 <;> rfl
theorem awake21 : f_law21_awake.f 1000 = some (true, ()) := by decide +kernel
theorem inR_iff {n : Nat} {x : Int} : inR n x = true ↔ 0 ≤ x ∧ x < (n : Int) := by unfold inR; exact decide_eq_true_iff
def isC (c : Ct) : Bool := isB c.1.length c.2.1 c.2.2.1 c.2.2.2.2.2.1 c.2.2.2.2.2.2.2.1 c.2.2.2.2.2.2.2.2.1.length
theorem FewC.rl {cs : List (List (List Rl))} {peers : List T23b6.T} {queue done undone : List Int} {given : List T713d.T} (h : FewC cs peers queue done undone given) : ∀ x ∈ cs, ∀ l ∈ x, l.length < 1000000 := fun x hx l hl => by have := (h.r x hx).2 l hl; omega
theorem bne_self (x : Int) : (x != x) = false := by simp
theorem ints_refl (xs : List Int) (h : xs.length < 1000) : f_ref02_Ints.f 1000 xs xs = some (true, ()) := by
  unfold f_ref02_Ints.f
  rw [if_neg (by rw [bne_self]; exact Bool.false_ne_true)]
  refine loop (fun m i => f_ref02_Ints.l1 1000 m xs xs (i : Int)) xs.length _ (fun m i hi => ?_) (fun m => ?_) 1000 (by omega)
  · simp only [f_ref02_Ints.l1, f_ref02_Ints.b1]
    rw [if_pos (by (first | omega | (dsimp only [Ty.T]; omega) | (simp only [decide_eq_true_eq, decide_eq_false_iff_not, Bool.not_eq_true, Ty.T]; omega) | (simp only [decide_eq_true_eq, decide_eq_false_iff_not, Ty.T]; omega) | (simp only [beq_iff_eq, bne_iff_ne, ne_eq, decide_eq_true_eq, Ty.T]; omega))), if_pos (by omega), if_pos (by omega), if_pos (by omega), if_neg (by rw [bne_self]; exact Bool.false_ne_true), wsucc i (by omega)]
  · simp only [f_ref02_Ints.l1, f_ref02_Ints.b1]
    rw [if_neg (by (first | omega | (dsimp only [Ty.T]; omega) | (simp only [decide_eq_true_eq, decide_eq_false_iff_not, Bool.not_eq_true, Ty.T]; omega) | (simp only [decide_eq_true_eq, decide_eq_false_iff_not, Ty.T]; omega) | (simp only [beq_iff_eq, bne_iff_ne, ne_eq, decide_eq_true_eq, Ty.T]; omega)))]
theorem given_refl (xs : List T713d.T) (h : xs.length < 1000) : f_ref21_given.f 1000 xs xs = some (true, ()) := by
  unfold f_ref21_given.f
  rw [if_neg (by rw [bne_self]; exact Bool.false_ne_true)]
  refine loop (fun m i => f_ref21_given.l1 xs xs 1000 m (i : Int)) xs.length _ (fun m i hi => ?_) (fun m => ?_) 1000 (by omega)
  · simp only [f_ref21_given.l1, f_ref21_given.b1]
    rw [if_pos (by (first | omega | (dsimp only [Ty.T]; omega) | (simp only [decide_eq_true_eq, decide_eq_false_iff_not, Bool.not_eq_true, Ty.T]; omega) | (simp only [decide_eq_true_eq, decide_eq_false_iff_not, Ty.T]; omega) | (simp only [beq_iff_eq, bne_iff_ne, ne_eq, decide_eq_true_eq, Ty.T]; omega))), if_pos (by omega), if_pos (by omega), if_pos (by omega), if_neg (by simp), wsucc i (by omega)]
  · simp only [f_ref21_given.l1, f_ref21_given.b1]
    rw [if_neg (by (first | omega | (dsimp only [Ty.T]; omega) | (simp only [decide_eq_true_eq, decide_eq_false_iff_not, Bool.not_eq_true, Ty.T]; omega) | (simp only [decide_eq_true_eq, decide_eq_false_iff_not, Ty.T]; omega) | (simp only [beq_iff_eq, bne_iff_ne, ne_eq, decide_eq_true_eq, Ty.T]; omega)))]
theorem msgs_refl (xs : List T4414.T) (h : xs.length < 1000) : f_ref15_Msgs.f 1000 xs xs = some (true, ()) := by
  unfold f_ref15_Msgs.f
  rw [if_neg (by rw [bne_self]; exact Bool.false_ne_true)]
  refine loop (fun m i => f_ref15_Msgs.l1 1000 m xs xs (i : Int)) xs.length _ (fun m i hi => ?_) (fun m => ?_) 1000 (by omega)
  · simp only [f_ref15_Msgs.l1, f_ref15_Msgs.b1]
    rw [if_pos (by (first | omega | (dsimp only [Ty.T]; omega) | (simp only [decide_eq_true_eq, decide_eq_false_iff_not, Bool.not_eq_true, Ty.T]; omega) | (simp only [decide_eq_true_eq, decide_eq_false_iff_not, Ty.T]; omega) | (simp only [beq_iff_eq, bne_iff_ne, ne_eq, decide_eq_true_eq, Ty.T]; omega))), if_pos (by omega), if_pos (by omega), if_pos (by omega), if_neg (by simp), wsucc i (by omega)]
  · simp only [f_ref15_Msgs.l1, f_ref15_Msgs.b1]
    rw [if_neg (by (first | omega | (dsimp only [Ty.T]; omega) | (simp only [decide_eq_true_eq, decide_eq_false_iff_not, Bool.not_eq_true, Ty.T]; omega) | (simp only [decide_eq_true_eq, decide_eq_false_iff_not, Ty.T]; omega) | (simp only [beq_iff_eq, bne_iff_ne, ne_eq, decide_eq_true_eq, Ty.T]; omega)))]
theorem rules_refl (xs : List T1383.T) (h : xs.length < 1000) : f_ref08_Same.f 1000 xs xs = some (true, ()) := by
  unfold f_ref08_Same.f
  rw [if_neg (by rw [bne_self]; exact Bool.false_ne_true)]
  refine loop (fun m i => f_ref08_Same.l1 1000 m xs xs (i : Int)) xs.length _ (fun m i hi => ?_) (fun m => ?_) 1000 (by omega)
  · simp only [f_ref08_Same.l1, f_ref08_Same.b1]
    rw [if_pos (by (first | omega | (dsimp only [Ty.T]; omega) | (simp only [decide_eq_true_eq, decide_eq_false_iff_not, Bool.not_eq_true, Ty.T]; omega) | (simp only [decide_eq_true_eq, decide_eq_false_iff_not, Ty.T]; omega) | (simp only [beq_iff_eq, bne_iff_ne, ne_eq, decide_eq_true_eq, Ty.T]; omega))), if_pos (by omega), if_pos (by omega), if_pos (by omega), if_neg (by simp), wsucc i (by omega)]
  · simp only [f_ref08_Same.l1, f_ref08_Same.b1]
    rw [if_neg (by (first | omega | (dsimp only [Ty.T]; omega) | (simp only [decide_eq_true_eq, decide_eq_false_iff_not, Bool.not_eq_true, Ty.T]; omega) | (simp only [decide_eq_true_eq, decide_eq_false_iff_not, Ty.T]; omega) | (simp only [beq_iff_eq, bne_iff_ne, ne_eq, decide_eq_true_eq, Ty.T]; omega)))]
theorem peers_refl (xs : List T23b6.T) (h : xs.length < 1000) (ho : ∀ y ∈ xs, y.2.2.2.2.length < 1000) : f_ref21_peers.f 1000 xs xs = some (true, ()) := by
  unfold f_ref21_peers.f
  rw [if_neg (by rw [bne_self]; exact Bool.false_ne_true)]
  refine loop (fun m i => f_ref21_peers.l1 xs xs 1000 m (i : Int)) xs.length _ (fun m i hi => ?_) (fun m => ?_) 1000 (by omega)
  · have hy := ho _ (List.getElem_mem hi)
    have hs : ∀ s : Tb104.T, s.2.2.length < 1000 → f_ref15_Same.f 1000 s s = some (true, ()) := by
      intro s hs
      unfold f_ref15_Same.f
      rw [msgs_refl _ hs, Option.bind_some, if_pos rfl, if_pos (beq_iff_eq.2 rfl), show (s.2.1 == s.2.1) = true from beq_iff_eq.2 rfl]
    simp only [f_ref21_peers.l1, f_ref21_peers.b1, f_ref21_peers.j2]
    rw [if_pos (by (first | omega | (dsimp only [Ty.T]; omega) | (simp only [decide_eq_true_eq, decide_eq_false_iff_not, Bool.not_eq_true, Ty.T]; omega) | (simp only [decide_eq_true_eq, decide_eq_false_iff_not, Ty.T]; omega) | (simp only [beq_iff_eq, bne_iff_ne, ne_eq, decide_eq_true_eq, Ty.T]; omega))), if_pos (by omega), if_pos (by omega), if_pos (by omega), att_n (e := T23b6) xs i hi, hs _ (by omega), Option.bind_some, if_neg (by decide), if_neg (by rw [bne_self]; exact Bool.false_ne_true), bne_self, if_neg Bool.false_ne_true, wsucc i (by omega)]
  · simp only [f_ref21_peers.l1, f_ref21_peers.b1]
    rw [if_neg (by (first | omega | (dsimp only [Ty.T]; omega) | (simp only [decide_eq_true_eq, decide_eq_false_iff_not, Bool.not_eq_true, Ty.T]; omega) | (simp only [decide_eq_true_eq, decide_eq_false_iff_not, Ty.T]; omega) | (simp only [beq_iff_eq, bne_iff_ne, ne_eq, decide_eq_true_eq, Ty.T]; omega)))]
theorem confs_refl (xs : List (List (List Rl))) (h : xs.length < 1000) (ho : ∀ x ∈ xs, x.length < 1000 ∧ ∀ l ∈ x, l.length < 1000) : f_ref21_Confs.f 1000 xs xs = some (true, ()) := by
  unfold f_ref21_Confs.f
  rw [if_neg (by rw [bne_self]; exact Bool.false_ne_true)]
  refine loop (fun m i => f_ref21_Confs.l1 xs xs 1000 m (i : Int)) xs.length _ (fun m i hi => ?_) (fun m => ?_) 1000 (by omega)
  · have hx := ho _ (List.getElem_mem hi)
    have hx1 : xs[i].length < 1000 := hx.1
    simp only [f_ref21_Confs.l1, f_ref21_Confs.b1]
    rw [if_pos (by (first | omega | (dsimp only [Ty.T]; omega) | (simp only [decide_eq_true_eq, decide_eq_false_iff_not, Bool.not_eq_true, Ty.T]; omega) | (simp only [decide_eq_true_eq, decide_eq_false_iff_not, Ty.T]; omega) | (simp only [beq_iff_eq, bne_iff_ne, ne_eq, decide_eq_true_eq, Ty.T]; omega))), if_pos (by omega), if_pos (by omega), if_pos (by omega), if_neg (by rw [bne_self]; exact Bool.false_ne_true)]
    refine loop (fun q j => f_ref21_Confs.l2 xs xs (f_ref21_Confs.l1 xs xs 1000 m) 1000 q (i : Int) (j : Int)) (xs[i]).length _ (fun q j hj => ?_) (fun q => ?_) 1000 (by omega)
    · have hy := hx.2 _ (List.getElem_mem hj)
      simp only [f_ref21_Confs.l2, f_ref21_Confs.b2]
      rw [att_n (e := .slice (.slice T1383)) xs i hi, if_pos (by omega), if_pos (by omega), if_pos (by (first | omega | (dsimp only [Ty.T]; omega) | (simp only [decide_eq_true_eq, decide_eq_false_iff_not, Bool.not_eq_true, Ty.T]; omega) | (simp only [decide_eq_true_eq, decide_eq_false_iff_not, Ty.T]; omega) | (simp only [beq_iff_eq, bne_iff_ne, ne_eq, decide_eq_true_eq, Ty.T]; omega))), if_pos (by omega), if_pos (by omega), if_pos (by omega), if_pos (by omega), att_n (e := .slice T1383) xs[i] j hj, rules_refl _ (by omega), Option.bind_some, if_neg (by decide), wsucc j (by omega)]
    · simp only [f_ref21_Confs.l2, f_ref21_Confs.b2]
      rw [att_n (e := .slice (.slice T1383)) xs i hi, if_pos (by omega), if_pos (by omega), if_neg (by (first | omega | (dsimp only [Ty.T]; omega) | (simp only [decide_eq_true_eq, decide_eq_false_iff_not, Bool.not_eq_true, Ty.T]; omega) | (simp only [decide_eq_true_eq, decide_eq_false_iff_not, Ty.T]; omega) | (simp only [beq_iff_eq, bne_iff_ne, ne_eq, decide_eq_true_eq, Ty.T]; omega))), wsucc i (by omega)]
  · simp only [f_ref21_Confs.l1, f_ref21_Confs.b1]
    rw [if_neg (by (first | omega | (dsimp only [Ty.T]; omega) | (simp only [decide_eq_true_eq, decide_eq_false_iff_not, Bool.not_eq_true, Ty.T]; omega) | (simp only [decide_eq_true_eq, decide_eq_false_iff_not, Ty.T]; omega) | (simp only [beq_iff_eq, bne_iff_ne, ne_eq, decide_eq_true_eq, Ty.T]; omega)))]
structure BigC (cs : List (List (List Rl))) (peers : List T23b6.T) (queue done undone : List Int) (given : List T713d.T) : Prop where
  c : cs.length < 1000
  p : peers.length < 1000
  q : queue.length < 1000
  g : given.length < 1000
  d : done.length < 1000
  u : undone.length < 1000
  r : ∀ x ∈ cs, x.length < 1000 ∧ ∀ l ∈ x, l.length < 1000
  o : ∀ y ∈ peers, y.2.2.2.2.length < 1000
abbrev BigOf (c : Ct) : Prop := BigC c.1 c.2.2.2.2.2.2.2.2.1 c.2.2.2.2.2.2.2.1 c.2.2.2.2.2.2.2.2.2.2.1 c.2.2.2.2.2.2.2.2.2.2.2.1 c.2.2.2.2.2.2.2.2.2.1
theorem FewC.big {cs : List (List (List Rl))} {peers : List T23b6.T} {queue done undone : List Int} {given : List T713d.T} (h : FewC cs peers queue done undone given) : BigC cs peers queue done undone given := ⟨by have := h.c; omega, by have := h.p; omega, by have := h.q; omega, by have := h.g; omega, by have := h.d; omega, by have := h.u; omega, fun x hx => ⟨by have := (h.r x hx).1; omega, fun l hl => by have := (h.r x hx).2 l hl; omega⟩, fun y hy => by have := h.o y hy; omega⟩
theorem same_big (c : Ct) (h : BigOf c) : f_ref21_Same.f 1000 c c = some (true, ()) := by
  have b : ∀ x : Int, (x == x) = true := fun x => beq_iff_eq.2 rfl
  unfold f_ref21_Same.f
  rw [confs_refl _ h.c h.r, Option.bind_some, peers_refl _ h.p h.o, Option.bind_some, given_refl _ h.g, Option.bind_some, ints_refl _ h.q, Option.bind_some, ints_refl _ h.d, Option.bind_some, ints_refl _ h.u, Option.bind_some]
  unfold f_ref21_Same.j2 f_ref21_Same.j1
  rw [if_pos (b _), if_pos (b _), if_pos (b _), if_pos (b _), if_pos (b _), b, b]
  rfl
theorem ref_two (k : Nat) (c : Ct) : f_ref21_two.f k c = some (two c.2.2.2.2.2.1, ()) := by
  unfold f_ref21_two.f two
  by_cases h1 : c.2.2.2.2.2.1 = (1 : Int)
  · rw [if_pos (beq_iff_eq.2 h1), h1]; rfl
  · rw [if_neg (by rw [beq_iff_eq]; exact h1), beq_eq_false_iff_ne.2 h1]
    by_cases h2 : c.2.2.2.2.2.1 = (2 : Int)
    · rw [if_pos (beq_iff_eq.2 h2), h2]; rfl
    · rw [if_neg (by rw [beq_iff_eq]; exact h2), beq_eq_false_iff_ne.2 h2]; rfl
theorem next_dec (n : Nat) (next : Int) (t : Bool) : ((next == -1 && !t) || inR n next) = ((decide (next ≥ -1) && decide (next < (n : Int))) && (!t || decide (next ≥ 0))) := by
  unfold inR
  rw [Bool.eq_iff_iff]
  simp only [Bool.or_eq_true, Bool.and_eq_true, beq_iff_eq, decide_eq_true_eq, Bool.not_eq_true']
  constructor
  · rintro (⟨h1, h⟩ | ⟨h1, h2⟩)
    · exact ⟨⟨by omega, by omega⟩, .inl h⟩
    · exact ⟨⟨by omega, h2⟩, .inr h1⟩
  · rintro ⟨⟨h1, h2⟩, h3 | h3⟩
    · by_cases e : next = -1
      · exact .inl ⟨e, h3⟩
      · exact .inr ⟨by omega, h2⟩
    · exact .inr ⟨h3, h2⟩
theorem ref_may (c : Ct) (h : FewOf c) : f_ref21_May.f 1000 c = some (isC c, ()) := by
  obtain ⟨cs, live, next, tag, new, ph, timer, queue, peers, given, done, undone, junk⟩ := c
  have hq : queue.length ≤ 100 := h.q
  have hL : ∀ p1 p2 p3, f_ref21_May.l1 (cs, live, next, tag, new, ph, timer, queue, peers, given, done, undone, junk) 1000 1000 p1 p2 p3 0 = some (!queue.any (fun q => !inR cs.length q) && (p1 && (p2 && ((!p3 || decide (next ≥ (0 : Int))) && decide ((peers.length : Int) ≤ 100)))), ()) := by
    intro p1 p2 p3
    have hle : queue.findIdx (fun q => !inR cs.length q) ≤ queue.length := List.findIdx_le_length
    refine loop (fun m i => f_ref21_May.l1 (cs, live, next, tag, new, ph, timer, queue, peers, given, done, undone, junk) 1000 m p1 p2 p3 (i : Int)) (queue.findIdx (fun q => !inR cs.length q)) _ (fun m i hi => ?_) (fun m => ?_) 1000 (by omega)
    · have hl : i < queue.length := by omega
      have hn : (!inR cs.length queue[i]) = false := fi_not (p := fun q => !inR cs.length q) hi hl
      have hr : 0 ≤ queue[i] ∧ queue[i] < (cs.length : Int) := inR_iff.1 (by simpa using hn)
      simp only [f_ref21_May.l1, f_ref21_May.b1, f_ref21_May.j2]
      rw [if_pos (by (first | omega | (dsimp only [Ty.T]; omega) | (simp only [decide_eq_true_eq, decide_eq_false_iff_not, Bool.not_eq_true, Ty.T]; omega) | (simp only [decide_eq_true_eq, decide_eq_false_iff_not, Ty.T]; omega) | (simp only [beq_iff_eq, bne_iff_ne, ne_eq, decide_eq_true_eq, Ty.T]; omega))), if_pos (by omega), if_pos (by omega), att_n (e := .int .i64) queue i hl, if_neg (by rw [decide_eq_false (Int.not_lt.2 hr.1)]; exact Bool.false_ne_true), decide_eq_false (Int.not_le.2 hr.2), if_neg Bool.false_ne_true, wsucc i (by omega)]
    · simp only [f_ref21_May.l1, f_ref21_May.b1, f_ref21_May.j2]
      by_cases hl : queue.findIdx (fun q => !inR cs.length q) < queue.length
      · have hy := List.findIdx_getElem (w := hl)
        have hany : queue.any (fun q => !inR cs.length q) = true := List.any_eq_true.2 ⟨_, List.getElem_mem hl, hy⟩
        rw [if_pos (by (first | omega | (dsimp only [Ty.T]; omega) | (simp only [decide_eq_true_eq, decide_eq_false_iff_not, Bool.not_eq_true, Ty.T]; omega) | (simp only [decide_eq_true_eq, decide_eq_false_iff_not, Ty.T]; omega) | (simp only [beq_iff_eq, bne_iff_ne, ne_eq, decide_eq_true_eq, Ty.T]; omega))), if_pos (by omega), if_pos (by omega), att_n (e := .int .i64) queue _ hl, hany]
        generalize queue[queue.findIdx (fun q => !inR cs.length q)] = z at hy
        have hy2 : inR cs.length z = false := by simpa using hy
        by_cases hz : z < (0 : Int)
        · rw [if_pos (decide_eq_true hz), if_pos trivial]; rfl
        · rw [if_neg (by rw [decide_eq_false hz]; exact Bool.false_ne_true)]
          have : z ≥ (cs.length : Int) := by
            have h1 : ¬ (0 ≤ z ∧ z < (cs.length : Int)) := fun k => by rw [inR_iff.2 k] at hy2; cases hy2
            exact Int.not_lt.1 fun k => h1 ⟨Int.not_lt.1 hz, k⟩
          rw [decide_eq_true this, if_pos rfl]; rfl
      · have hany : queue.any (fun q => !inR cs.length q) = false := by
          rw [Bool.eq_false_iff]
          intro hc
          obtain ⟨y, h1, h2⟩ := List.any_eq_true.1 hc
          exact hl (List.findIdx_lt_length_of_exists ⟨y, h1, h2⟩)
        rw [if_neg (by (first | omega | (dsimp only [Ty.T]; omega) | (simp only [decide_eq_true_eq, decide_eq_false_iff_not, Bool.not_eq_true, Ty.T]; omega) | (simp only [decide_eq_true_eq, decide_eq_false_iff_not, Ty.T]; omega) | (simp only [beq_iff_eq, bne_iff_ne, ne_eq, decide_eq_true_eq, Ty.T]; omega))), hany]
        cases p1
        · rfl
        cases p2
        · rfl
        cases p3
        · rfl
        · rw [if_pos rfl, if_pos rfl, if_neg (by decide)]
          by_cases hx : next ≥ (0 : Int)
          · rw [if_pos (decide_eq_true hx), decide_eq_true hx]; rfl
          · rw [if_neg (by rw [decide_eq_false hx]; exact Bool.false_ne_true), decide_eq_false hx]; rfl
  unfold f_ref21_May.f f_ref21_May.j4 f_ref21_May.j3
  simp only [ref_two, Option.bind_some, hL]
  unfold isC isB
  have e1 : inR cs.length live = (decide (live ≥ 0) && decide (live < (cs.length : Int))) := by unfold inR; rw [← Bool.decide_and]
  have e2 := next_dec cs.length next (two ph)
  dsimp only
  rw [e1, e2]
  generalize decide (live ≥ 0) = b1
  generalize decide (live < (cs.length : Int)) = b2
  generalize decide (next ≥ -1) = b3
  generalize decide (next < (cs.length : Int)) = b4
  generalize two ph = b5
  generalize decide (next ≥ 0) = b6
  generalize queue.any (fun q => !inR cs.length q) = b7
  generalize decide ((peers.length : Int) ≤ 100) = b8
  cases b1 <;> cases b2 <;> cases b3 <;> cases b4 <;> cases b5 <;> cases b6 <;> cases b7 <;> cases b8 <;> rfl
noncomputable def updC (c : Ct) (t : Tp) (x : List (List Rl)) : Ct × Int :=
  if isC c = true ∧ cmay t x = true then
    if (c.2.2.2.2.2.2.2.1.length : Int) ≥ 4 then (c, 7)
    else ((c.1 ++ [x], (c.2.1, (c.2.2.1, (c.2.2.2.1, (c.2.2.2.2.1, (c.2.2.2.2.2.1, (c.2.2.2.2.2.2.1, (c.2.2.2.2.2.2.2.1 ++ [(c.1.length : Int)], c.2.2.2.2.2.2.2.2)))))))), 0)
  else (c, 1)
theorem upd_eq (c : Ct) (h : FewOf c) (t : Tp) (ht : t.2.2.length < 999) (x : List (List Rl)) (hx : x.length ≤ 10 ∧ ∀ l ∈ x, l.length ≤ 60) : f_control_Update.f 1000 c t x = some ((updC c t x).1, ((updC c t x).2, ())) := by
  unfold f_control_Update.f
  rw [qi_control_own_c1am (h := h), Option.bind_some]
  dsimp only
  rw [qi_control_controller_is_ac1 (h := by have := h.q; omega), Option.bind_some]
  show (if (!isC c) = true then _ else _) = _
  unfold updC
  by_cases hc : ¬ isC c = true
  · rw [if_pos (by rw [Bool.eq_false_iff.2 hc]; rfl), if_neg (show ¬ (isC c = true ∧ cmay t x = true) from fun k => hc k.1)]
    rfl
  replace hc := Decidable.not_not.1 hc
  rw [if_neg (by rw [hc]; decide), conf_may t ht x (by omega) (fun l hl => by have := hx.2 l hl; omega), Option.bind_some]
  by_cases hm : ¬ cmay t x = true
  · rw [if_neg (show ¬ (isC c = true ∧ cmay t x = true) from fun k => hm k.2), show (!cmay t x) = true by rw [Bool.eq_false_iff.2 hm]; rfl]
    rfl
  replace hm := Decidable.not_not.1 hm
  rw [if_pos (show isC c = true ∧ cmay t x = true from ⟨hc, hm⟩), show (!cmay t x) = false by rw [hm]; rfl]
  unfold f_control_Update.j1
  rw [if_neg Bool.false_ne_true]
  by_cases h4 : (c.2.2.2.2.2.2.2.1.length : Int) ≥ 4
  · rw [if_pos (decide_eq_true h4), if_pos h4]
  rw [if_neg (by rw [decide_eq_false h4]; exact Bool.false_ne_true), if_neg h4]
  have hq := h.q
  have hcl := h.c
  refine loop (fun m i => f_control_Update.l2 x 1000 m (x.length : Int) (i : Int) 0 0 0 0 0 0 0 c.2.1 c.2.2.1 c.2.2.2.1 c.2.2.2.2.1 c.2.2.2.2.2.1 c.2.2.2.2.2.2.1 c.2.2.2.2.2.2.2.2.2.2.2.2 (x.take i) c.1 c.2.2.2.2.2.2.2.1 c.2.2.2.2.2.2.2.2.1 c.2.2.2.2.2.2.2.2.2.1 c.2.2.2.2.2.2.2.2.2.2.1 c.2.2.2.2.2.2.2.2.2.2.2.1) x.length _ (fun m i hi => ?_) (fun m => ?_) 1000 (by omega)
  · have hl : (x.take i).length = i := by rw [List.length_take]; omega
    simp only [f_control_Update.l2, f_control_Update.b2]
    rw [if_pos (by (first | omega | (dsimp only [Ty.T]; omega) | (simp only [decide_eq_true_eq, decide_eq_false_iff_not, Bool.not_eq_true, Ty.T]; omega) | (simp only [decide_eq_true_eq, decide_eq_false_iff_not, Ty.T]; omega) | (simp only [beq_iff_eq, bne_iff_ne, ne_eq, decide_eq_true_eq, Ty.T]; omega))), conf_g 1000 x (i : Int) (fun l hl => by have := hx.2 l hl; omega), Option.bind_some, if_pos (by rw [hl]; omega), wsucc i (by omega), List.take_succ_eq_append_getElem hi]
    have : rulesAt x (i : Int) = x[i] := by
      unfold rulesAt
      rw [if_pos (by omega), att_n (e := .slice T1383) x i hi]
    rw [this]
  · simp only [f_control_Update.l2, f_control_Update.b2]
    rw [if_neg (by (first | omega | (dsimp only [Ty.T]; omega) | (simp only [decide_eq_true_eq, decide_eq_false_iff_not, Bool.not_eq_true, Ty.T]; omega) | (simp only [decide_eq_true_eq, decide_eq_false_iff_not, Ty.T]; omega) | (simp only [beq_iff_eq, bne_iff_ne, ne_eq, decide_eq_true_eq, Ty.T]; omega))), if_pos (by omega), if_pos (by omega), List.take_length]
theorem ref_upd (c : Ct) (h : FewOf c) (t : Tp) (ht : t.2.2.length < 999) (x : List (List Rl)) (hx : x.length ≤ 10 ∧ ∀ l ∈ x, l.length ≤ 60) : f_ref21_Update.f 1000 c t x = some ((updC c t x).1, ((updC c t x).2, ())) := by
  unfold f_ref21_Update.f
  rw [ref_may c h, Option.bind_some, ref_cmay t ht x (by omega) (fun l hl => by have := hx.2 l hl; omega), Option.bind_some]
  unfold updC
  by_cases hc : ¬ isC c = true
  · rw [if_pos (by rw [Bool.eq_false_iff.2 hc]; rfl), if_neg (show ¬ (isC c = true ∧ cmay t x = true) from fun k => hc k.1)]
    rfl
  replace hc := Decidable.not_not.1 hc
  rw [if_neg (by rw [hc]; decide)]
  by_cases hm : ¬ cmay t x = true
  · rw [if_neg (show ¬ (isC c = true ∧ cmay t x = true) from fun k => hm k.2), show (!cmay t x) = true by rw [Bool.eq_false_iff.2 hm]; rfl]
    rfl
  replace hm := Decidable.not_not.1 hm
  rw [if_pos (show isC c = true ∧ cmay t x = true from ⟨hc, hm⟩), show (!cmay t x) = false by rw [hm]; rfl]
  unfold f_ref21_Update.j1
  rw [if_neg Bool.false_ne_true]
  have hq := h.q
  have hcl := h.c
  by_cases h4 : (c.2.2.2.2.2.2.2.1.length : Int) ≥ 4
  · rw [if_pos (decide_eq_true h4), if_pos h4]
  rw [if_neg (by rw [decide_eq_false h4]; exact Bool.false_ne_true), if_neg h4, if_pos (by omega), if_pos (by omega), if_pos (by omega), if_pos (by omega)]
theorem upd_big (c : Ct) (h : FewOf c) (t : Tp) (x : List (List Rl)) (hx : x.length ≤ 10 ∧ ∀ l ∈ x, l.length ≤ 60) : BigOf (updC c t x).1 := by
  have hb := h.big
  unfold updC
  split
  · split
    · exact hb
    · have hq := h.q
      have hcl := h.c
      refine ⟨?_, hb.p, ?_, hb.g, hb.d, hb.u, ?_, hb.o⟩
      · show (c.1 ++ [x]).length < 1000
        rw [List.length_append, List.length_singleton]; omega
      · show (c.2.2.2.2.2.2.2.1 ++ [(c.1.length : Int)]).length < 1000
        rw [List.length_append, List.length_singleton]; omega
      · intro y hy
        replace hy : y ∈ c.1 ++ [x] := hy
        rw [List.mem_append, List.mem_singleton] at hy
        rcases hy with hy | rfl
        · exact hb.r y hy
        · exact ⟨by omega, fun l hl => by have := hx.2 l hl; omega⟩
  · exact hb
def newN (n : Int) : Int := if 100 < (if 0 > n then 0 else n) then 100 else (if 0 > n then 0 else n)
theorem newN_in (n : Int) : 0 ≤ newN n ∧ newN n ≤ 100 := by unfold newN; split <;> split at * <;> omega
def newC (n : Int) : Ct := ([List.replicate n.toNat ([] : List Rl)], (0, (-1, (1, (0, (0, (0, ([], (List.replicate n.toNat ((0, (0, (0, (0, [])))) : T23b6.T), ([(1, 0)], ([], ([], 0))))))))))))
theorem new_eq (t : Tp) : f_control_New.f 1000 t = some (newC (newN t.1), ()) := by
  unfold f_control_New.f
  have hn := newN_in t.1
  show (if 0 ≤ newN t.1 ∧ newN t.1 = newN t.1 ∧ (24 : Int) * newN t.1 ≤ 140737488355328 ∧ newN t.1 ≤ 140737488355328 then (if 0 ≤ newN t.1 ∧ newN t.1 = newN t.1 ∧ (56 : Int) * newN t.1 ≤ 140737488355328 ∧ newN t.1 ≤ 140737488355328 then some (newC (newN t.1), ()) else none) else none) = _
  rw [if_pos (by omega), if_pos (by omega)]
theorem ref_new (t : Tp) : f_ref21_New.f 1000 t = some (newC (newN t.1), ()) := by
  unfold f_ref21_New.f f_ref21_New.j1
  have h2 : ∀ n : Int, 0 ≤ n ∧ n ≤ 100 → f_ref21_New.j2 1000 n 0 0 0 0 0 0 0 = some (newC n, ()) := by
    intro n hn
    unfold f_ref21_New.j2
    rw [if_pos (by omega), if_pos (by omega)]
    rfl
  have key : ∀ n : Int, (if (decide (n < (0 : Int))) = true then (if (decide ((0 : Int) > (100 : Int))) = true then f_ref21_New.j2 1000 100 0 0 0 0 0 0 0 else f_ref21_New.j2 1000 0 0 0 0 0 0 0 0) else (if (decide (n > (100 : Int))) = true then f_ref21_New.j2 1000 100 0 0 0 0 0 0 0 else f_ref21_New.j2 1000 n 0 0 0 0 0 0 0)) = some (newC (newN n), ()) := by
    intro n
    unfold newN
    by_cases h0 : n < 0
    · rw [if_pos (decide_eq_true h0), if_neg (by decide), h2 0 (by omega), if_pos (show 0 > n from h0), if_neg (by decide)]
    · rw [if_neg (by rw [decide_eq_false h0]; exact Bool.false_ne_true), if_neg (show ¬ 0 > n from h0)]
      by_cases h1 : n > 100
      · rw [if_pos (decide_eq_true h1), h2 100 (by omega), if_pos (show 100 < n from h1)]
      · rw [if_neg (by rw [decide_eq_false h1]; exact Bool.false_ne_true), h2 n (by omega), if_neg (show ¬ 100 < n from h1)]
  exact key t.1
theorem new_big (n : Int) (h : 0 ≤ n ∧ n ≤ 100) : BigOf (newC n) := by
  refine ⟨(by decide : 1 < 1000), ?_, (by decide : 0 < 1000), (by decide : 1 < 1000), (by decide : 0 < 1000), (by decide : 0 < 1000), ?_, ?_⟩
  · show (List.replicate n.toNat ((0, (0, (0, (0, [])))) : T23b6.T)).length < 1000
    rw [List.length_replicate]; omega
  · intro y hy
    replace hy : y ∈ [List.replicate n.toNat ([] : List Rl)] := hy
    rw [List.mem_singleton] at hy
    subst hy
    refine ⟨by rw [List.length_replicate]; omega, fun l hl => ?_⟩
    rw [List.eq_of_mem_replicate hl]
    exact (by decide : 0 < 1000)
  · intro y hy
    rw [List.eq_of_mem_replicate (show y ∈ List.replicate n.toNat ((0, (0, (0, (0, [])))) : T23b6.T) from hy)]
    exact (by decide : 0 < 1000)
theorem P_ControlAsked (x0 : Ct) (x1 : T5477.T) (x2 : List (List Rl)) (_ : Wf T26b3 x0) (_ : Wf T5477 x1) (_ : Wf (.slice (.slice T1383)) x2) : ∃ k, f_law21_ControlAsked.f k x0 x1 x2 = some (true, ()) := by
  refine ⟨1000, ?_⟩
  unfold f_law21_ControlAsked.f
  obtain ⟨b, hb, hf⟩ := fewC x0
  obtain ⟨d, hd, hg⟩ := few12 x2
  rw [awake21, Option.bind_some, hb, Option.bind_some, hd, Option.bind_some, if_neg (show ¬ (!(true, ()).1) = true by decide)]
  dsimp only
  have hj : f_law21_ControlAsked.j1 x0 x1 x2 1000 true true = some (true, ()) := rfl
  cases b with
  | false => rfl
  | true =>
    cases d with
    | false => rfl
    | true =>
      have h := hf rfl
      have hx := hg rfl
      rw [if_neg (show ¬ (!true) = true by decide), if_neg (show ¬ (!true) = true by decide)]
      by_cases h3 : (x1.2.2.length : Int) > 60
      · rw [decide_eq_true h3, hj]
      rw [decide_eq_false h3]
      unfold f_law21_ControlAsked.j1
      have hl : x1.2.2.length < 999 := by omega
      rw [if_neg Bool.false_ne_true, upd_eq x0 h x1 hl x2 hx, Option.bind_some, ref_upd x0 h x1 hl x2 hx, Option.bind_some]
      dsimp only
      rw [same_big _ (upd_big x0 h x1 x2 hx), Option.bind_some, new_eq, Option.bind_some, ref_new, Option.bind_some]
      dsimp only
      rw [same_big _ (new_big _ (newN_in _)), Option.bind_some, if_pos rfl, if_pos (beq_iff_eq.2 rfl)]
end Go.Proofs.YtkhjemahenkdiaaGreatDoor.V
