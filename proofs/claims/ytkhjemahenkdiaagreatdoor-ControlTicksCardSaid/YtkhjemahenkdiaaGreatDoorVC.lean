/- What an operation reads and writes, without memory; each against the model. Part 1: types; operations that touch no block. -/
import Derived.Test.YtkhjemahenkdiaaGreatDoorVB
import Derived.Laws.Tables
import Derived.Laws.IdiomCopy
import Derived.Laws.StructEq
namespace Go.Proofs.YtkhjemahenkdiaaGreatDoor.V
open Go Go.RowKit
set_option linter.unusedVariables false
set_option linter.unusedSimpArgs false
structure TI where
  eq : Option (List (Option IntKind))
  n : Nat
  agg : Bool
  bytes : Nat
  zero : List AV
  ty : Option Ty
  fields : List (Nat × Nat)
  elem : Option Nat
  arr : Option (Nat × Nat)
  mp : Option (Nat × Nat)
  str : Bool := false
  key : Bool := false
abbrev TT := List (Nat × TI)
def TT.at : TT → Nat → Option TI
  | [], _ => none
  | (u, i) :: r, t => cond (Nat.beq u t) (some i) (TT.at r t)
theorem TT.at_mem : ∀ {tt : TT} {t : Nat} {i : TI}, tt.at t = some i → (t, i) ∈ tt
  | (u, j) :: r, t, i, h => by
    unfold TT.at at h
    by_cases e : u = t
    · subst e
      rw [Nat.beq_refl] at h
      obtain rfl := Option.some.inj h
      exact List.mem_cons_self
    · rw [beq_f e] at h
      exact List.mem_cons_of_mem _ (TT.at_mem h)
def zrep : Value → AV → Bool
  | .int k n, .int k' m => decide (k = k') && n == m
  | .bool a, .bool b => a == b
  | .slice none 0 0, .nils => true
  | .pointer none, .nilp => true
  | .nilFunc, .nilf => true
  | .map none, .bad => true
  | .nilIface, .bad => true
  | .string _, .bad => true
  | _, _ => false
theorem zrep_ok {v : Value} {x : AV} (h : zrep v x = true) (E : En) (w : World) : RepA E w v x := by
  unfold zrep at h
  split at h <;> simp_all [RepA, Value.oneCell']
def zall : List Value → List AV → Bool
  | [], [] => true
  | v :: l, a :: m => zrep v a && zall l m
  | _, _ => false
theorem zall_ok (E : En) (w : World) : ∀ {l : List Value} {m : List AV}, zall l m = true → RepL E w l m
  | [], [], _ => trivial
  | v :: l, a :: m, h => by
    simp only [zall, Bool.and_eq_true] at h
    exact ⟨zrep_ok h.1 E w, zall_ok E w h.2⟩
def dAgg : TypeDesc → Bool
  | .struct _ | .array _ _ => true
  | _ => false
def flds (P : Program) : List Field → List (Nat × Nat) → Bool
  | [], [] => true
  | f :: r, (o, t) :: s => f.offset == o && f.type == t && ((P.info? t).map (fun i => decide (0 < i.size))).getD false && flds P r s
  | _, _ => false
def dOk (P : Program) (i : TI) : TypeDesc → Bool
  | .struct fs => i.agg && flds P fs.toList i.fields && i.elem.isNone && (i.arr.isNone && i.mp.isNone)
  | .array n e => i.agg && i.fields.isEmpty && i.elem.isNone && ((i.arr == some (n, e)) && i.mp.isNone)
  | .slice e => !i.agg && i.fields.isEmpty && (i.elem == some e) && (i.arr.isNone && i.mp.isNone)
  | .map k e => !i.agg && i.fields.isEmpty && i.elem.isNone && i.arr.isNone && (i.mp == some (k, e)) && (match P.underlying k with | some (.int .i64) => true | some (.array _ _) => true | some (.struct _) => true | _ => false)
  | _ => !i.agg && i.fields.isEmpty && i.elem.isNone && (i.arr.isNone && i.mp.isNone)
def tyOk (i : TI) (d : TypeDesc) : Bool :=
  match i.ty with
  | none => !i.str || (match d with | .string => true | _ => false)
  | some (.int k) => (match d with | .int k' => decide (k = k') | _ => false) && i.n == 1
  | some .bool => (match d with | .bool => true | _ => false) && i.n == 1
  | some τ => τ.sz == i.n
def eqnG (P : Program) (rec : Nat → Option (List (Option IntKind))) : List Field → Nat → Option (List (Option IntKind))
  | [], off => some []
  | f :: r, off => if f.name == "_" || f.offset != off then none else match rec f.type with
    | some (k0 :: k1) => match eqnG P rec r (off + (k0 :: k1).length) with
      | some k' => some ((k0 :: k1) ++ k')
      | none => none
    | _ => none
/-- The cells of a type that is compared cell by cell: whole numbers and bools. -/
def eqn (P : Program) : Nat → Nat → Option (List (Option IntKind))
  | 0, _ => none
  | d + 1, t => match P.underlying t, (P.info? t).map (·.size) with
    | some .bool, some 1 => some [none]
    | some (.int k), some 1 => some [some k]
    | some (.struct fs), some n => if P.stoodInHeld t then none else match eqnG P (eqn P d) fs.toList 0 with
      | some m => if m.length = n then some m else none
      | none => none
    | _, _ => none
/-- A type that keys are of: whole numbers and bools, structs of such, arrays of two. -/
def keyF (rec : Nat → Ty → Bool) : List Field → Nat → Ty → Bool
  | [f], off, τ => f.name != "_" && f.offset == off && rec f.type τ
  | f :: g :: r, off, .pair a b => f.name != "_" && f.offset == off && rec f.type a && keyF rec (g :: r) (off + a.sz) b
  | _, _, _ => false
def keyK (P : Program) : Nat → Nat → Ty → Bool
  | 0, _, _ => false
  | d + 1, t, τ => ((P.info? t).map (·.size) == some τ.sz) && match P.underlying t, τ with
    | some (.int k), .int k' => decide (k = k')
    | some .bool, .bool => true
    | some (.array n e), .pair a b => (n == 2 && a.sz == b.sz) && (keyK P d e a && keyK P d e b)
    | some (.struct fs), τ => !P.stoodInHeld t && keyF (keyK P d) fs.toList 0 τ
    | _, _ => false
def keyI (P : Program) (t : Nat) (i : TI) : Bool := !i.key || (i.agg && match i.ty with | some τ => keyK P 9 t τ && flB τ | none => false)
def tck (P : Program) (t : Nat) (i : TI) : Bool :=
  match P.info? t, P.underlying t with
  | some f, some d => f.size == i.n && f.bytes == i.bytes && (match f.zero with | some z => (match z with | .agg _ => i.agg | .tuple _ => false | _ => !i.agg) && zall z.cells.toList i.zero | none => false) && dOk P i d && tyOk i d && (i.zero.length == i.n) && (match i.eq with | none => true | some ks => decide (eqn P 9 t = some ks) && !P.eqGuardType P.depth t) && keyI P t i
  | _, _ => false
def TT.ck (P : Program) : TT → Bool
  | [] => true
  | (t, i) :: r => tck P t i && TT.ck P r
theorem TT.ck_mem {P : Program} : ∀ {tt : TT} {t : Nat} {i : TI}, tt.ck P = true → (t, i) ∈ tt → tck P t i = true
  | (u, j) :: r, t, i, h, m => by
    simp only [TT.ck, Bool.and_eq_true] at h
    rcases List.mem_cons.1 m with e | m
    · cases e; exact h.1
    · exact TT.ck_mem h.2 m
structure TF (P : Program) (t : Nat) (i : TI) : Prop where
  ex : ∃ f d z, P.info? t = some f ∧ P.underlying t = some d ∧ f.size = i.n ∧ f.bytes = i.bytes ∧ f.zero = some z ∧ (i.agg = true → ∃ cs, z = .agg cs) ∧ (i.agg = false → z.cells = #[z]) ∧ zall z.cells.toList i.zero = true ∧ dAgg d = i.agg ∧ dOk P i d = true ∧ tyOk i d = true ∧ (∀ ks, i.eq = some ks → eqn P 9 t = some ks ∧ P.eqGuardType P.depth t = false)
  zl : i.zero.length = i.n
  ky : keyI P t i = true
theorem TT.fact {P : Program} {tt : TT} (h : tt.ck P = true) {t : Nat} {i : TI} (ht : tt.at t = some i) : TF P t i := by
  have h := TT.ck_mem h (TT.at_mem ht)
  unfold tck at h
  split at h
  · rename_i f d hf hd
    simp only [Bool.and_eq_true, beq_iff_eq] at h
    obtain ⟨⟨⟨⟨⟨⟨⟨h1, h2⟩, h3⟩, h4⟩, h5⟩, h8⟩, h7⟩, h9⟩ := h
    split at h3
    · rename_i z hz
      simp only [Bool.and_eq_true] at h3
      refine ⟨⟨f, d, z, hf, hd, h1, h2, hz, ?_, ?_, h3.2, ?_, h4, h5, ?_⟩, h8, h9⟩
      · intro ha
        have h6 := h3.1
        split at h6
        · exact ⟨_, rfl⟩
        · cases h6
        · rw [ha] at h6; cases h6
      · intro ha
        have h6 := h3.1
        split at h6
        · rw [ha] at h6; cases h6
        · cases h6
        · cases z <;> simp_all [Value.cells]
      · unfold dOk at h4
        unfold dAgg
        split at h4 <;> simp_all
      · intro ks he
        rw [he] at h7
        simpa using h7
    · cases h3
  · cases h
section
variable {P : Program} {t : Nat} {i : TI} (hT : TF P t i) (w : World)
include hT
theorem run_sizeOf : (sizeOf t).run P w = .ok i.n w := by
  obtain ⟨f, d, z, h1, h2, h3, _⟩ := hT.ex
  simp [sizeOf, typeInfo, h1, h3]
theorem run_isAgg : (isAgg t).run P w = .ok i.agg w := by
  obtain ⟨f, d, z, h1, h2, h3, h4, h5, h6, h7, h8, h9, _⟩ := hT.ex
  unfold isAgg
  rw [Sem.run_bind, run_underlying h2 w, ← h9]
  cases d <;> simp [dAgg]
theorem run_zero : ∃ z, (zeroValue t).run P w = .ok z w ∧ (i.agg = true → ∃ cs, z = .agg cs) ∧ (i.agg = false → z.cells = #[z]) ∧ zall z.cells.toList i.zero = true := by
  obtain ⟨f, d, z, h1, h2, h3, h4, h5, h6, h7, h8, h9, _⟩ := hT.ex
  exact ⟨z, by simp [zeroValue, typeInfo, h1, h5], h6, h7, h8⟩
theorem run_part {cs : Array Value} {off : Nat} {v : List Value} (hl : v.length = i.n) (hoff : off + i.n ≤ cs.size) (hv : (cs.toList.drop off).take i.n = v) (h1 : i.agg = false → i.n = 1) :
    ∃ u, (part t cs off).run P w = .ok u w ∧ (i.agg = true → u = .agg v.toArray) ∧ (i.agg = false → v = [u]) := by
  cases ha : i.agg
  · have h1 := h1 ha
    have hlt : off < cs.size := by omega
    refine ⟨cs[off], ?_, by simp, fun _ => ?_⟩
    · unfold part
      rw [Sem.run_bind, run_isAgg hT w, ha]
      simp [hlt]
    · rw [← hv, h1, List.drop_eq_getElem_cons (by simpa using hlt)]
      simp
  · refine ⟨.agg (cs.extract off (off + i.n)), ?_, fun _ => ?_, by simp⟩
    · unfold part
      rw [Sem.run_bind, run_isAgg hT w, ha]
      simp [run_sizeOf hT w]
    · congr 1
      apply Array.ext'
      rw [Array.toList_extract, ← hv]
      simp [List.extract_eq_take_drop]
end
def constAV : Value → AV
  | .int k n => .int k n
  | .bool b => .bool b
  | .slice none 0 0 => .nils
  | .nilFunc => .nilf
  | .pointer none => .nilp
  | _ => .bad
def constTV : Value → TV
  | .agg cs => if cs.toList.all (·.oneCell') then .cv (.agg (cs.toList.map constAV)) else .bad
  | .tuple _ => .bad
  | v => .cv (.one (constAV v))
theorem constAV_ok (E : En) (w : World) {v : Value} (h : v.oneCell' = true) : RepA E w v (constAV v) := by
  unfold constAV
  split <;> first | rfl | exact h
theorem constTV_ok (E : En) (w : World) (v : Value) : RepT E w v (constTV v) := by
  unfold constTV
  split
  · rename_i cs
    split
    · rename_i h
      refine ⟨cs, rfl, ?_⟩
      rw [List.all_eq_true] at h
      generalize cs.toList = l at h
      induction l with
      | nil => trivial
      | cons x l ih => exact ⟨constAV_ok E w (h x List.mem_cons_self), ih fun y hy => h y (List.mem_cons_of_mem _ hy)⟩
    · trivial
  · trivial
  · rename_i h1 h2
    refine constAV_ok E w ?_
    cases v <;> simp_all [Value.oneCell']
def ev (x : Operand) (k : TV → Rd) : Rd :=
  match x with
  | .tmp t => .tmp t k
  | .const v => k (constTV v)
  | .func f => k (.cv (.one (.fn f [] [])))
  | .global g => k (.cv (.one (.gptr g)))
section
variable {P : Program} {F0 : Nat → Prop} {w0 : World} {E : En} {σ : St} {a : Act} {w : World}
theorem ev_gives (hI : Inv F0 w0 E σ a w) {x : Operand} {k : TV → Rd} {ws : List Wr} (h : (ev x k).gives σ ws) : ∃ tv, RepT E w (a.eval x) tv ∧ (k tv).gives σ ws := by
  cases x with
  | tmp t => exact ⟨_, hI.tmp t, Rd.gives_tmp.1 h⟩
  | const v => exact ⟨_, constTV_ok E w v, h⟩
  | func f => exact ⟨.cv (.one (.fn f [] [])), (⟨#[], #[], rfl, trivial, trivial⟩ : RepA E w (a.eval (.func f)) (.fn f [] [])), h⟩
  | global g => exact ⟨.cv (.one (.gptr g)), (rfl : RepA E w (a.eval (.global g)) (.gptr g)), h⟩
def ev1 (x : Operand) (k : AV → Rd) : Rd := ev x fun tv => match tv with | .cv (.one a) => k a | _ => .fail
theorem ev1_gives (hI : Inv F0 w0 E σ a w) {x : Operand} {k : AV → Rd} {ws : List Wr} (h : (ev1 x k).gives σ ws) : ∃ v, RepA E w (a.eval x) v ∧ (k v).gives σ ws := by
  obtain ⟨tv, hr, h⟩ := ev_gives hI h
  split at h
  · exact ⟨_, hr, h⟩
  · exact absurd h Rd.gives_fail
def evc (x : Operand) (k : CV → Rd) : Rd := ev x fun tv => match tv with | .cv c => k c | _ => .fail
theorem evc_gives (hI : Inv F0 w0 E σ a w) {x : Operand} {k : CV → Rd} {ws : List Wr} (h : (evc x k).gives σ ws) : ∃ v, RepC E w (a.eval x) v ∧ (k v).gives σ ws := by
  obtain ⟨tv, hr, h⟩ := ev_gives hI h
  split at h
  · exact ⟨_, hr, h⟩
  · exact absurd h Rd.gives_fail
def CV.cells : CV → List AV
  | .one a => [a]
  | .agg l => l
theorem RepC.cells {v : Value} {c : CV} (h : RepC E w v c) : RepL E w v.cells.toList c.cells := by
  cases c with
  | one x =>
    have h1 := RepA.one h
    have : v.cells = #[v] := by cases v <;> simp_all [Value.oneCell', Value.cells]
    rw [this]
    exact ⟨h, trivial⟩
  | agg l => obtain ⟨cs, rfl, h⟩ := h; exact h
def mkC (agg : Bool) (l : List AV) : Option CV :=
  match agg, l with
  | true, l => some (.agg l)
  | false, [a] => some (.one a)
  | _, _ => none
def fin (nt : Nat) (dst : Option Nat) (ws : List Wr) (tv : TV) : Rd :=
  match dst with
  | none => .done ws
  | some t => cond (Nat.blt t nt) (.done (ws ++ [.tmp t tv])) .fail
theorem fin_gives {nt : Nat} {dst : Option Nat} {ws ws' : List Wr} {tv : TV} (h : (fin nt dst ws tv).gives σ ws') : (dst = none ∧ ws' = ws) ∨ ∃ t, dst = some t ∧ t < nt ∧ ws' = ws ++ [.tmp t tv] := by
  unfold fin at h
  split at h
  · exact .inl ⟨rfl, (Rd.gives_done.1 h).symm⟩
  · rename_i t
    cases e : Nat.blt t nt
    · rw [e] at h; exact absurd h Rd.gives_fail
    · rw [e] at h
      exact .inr ⟨t, rfl, Nat.le_of_ble_eq_true e, (Rd.gives_done.1 h).symm⟩
/-- What is asked of an operation: it runs, and what it leaves stands to the state with its writes. -/
def Good (P : Program) (F0 : Nat → Prop) (w0 : World) (E : En) (o : Oper) (a : Act) (w : World) (σ' : St) (Q : Exit → Act → World → Prop) : Prop :=
  o.wp P a w (fun a' w' => ∃ E', Inv F0 w0 E' σ' a' w' ∧ Evo E w E' w') Q
theorem good_fin {o : Oper} {Q : Exit → Act → World → Prop} {E' : En} {w' : World} {v : Value} {tv : TV} {hw ws : List Wr}
    (hrun : (execOp a.eval o).run P w = .ok (.value v) w') (hI : Inv F0 w0 E' (σ.aps hw) a w') (he : Evo E w E' w') (hv : RepT E' w' v tv) (hnt : (σ.aps hw).nt = σ.nt)
    (hg : (fin σ.nt o.dst hw tv).gives σ ws) : Good P F0 w0 E o a w (σ.aps ws) Q := by
  unfold Good Oper.wp
  rw [hrun]
  simp only [Oper.upon]
  rcases fin_gives hg with ⟨hd, rfl⟩ | ⟨t, hd, hlt, rfl⟩
  · rw [hd]; exact ⟨E', hI, he⟩
  · rw [hd, St.aps_app]
    exact ⟨E', hI.put (by rw [hnt]; exact hlt) hv, he⟩
theorem good_pure {o : Oper} {Q : Exit → Act → World → Prop} {v : Value} {tv : TV} {ws : List Wr}
    (hrun : (execOp a.eval o).run P w = .ok (.value v) w) (hI : Inv F0 w0 E σ a w) (hv : RepT E w v tv)
    (hg : (fin σ.nt o.dst [] tv).gives σ ws) : Good P F0 w0 E o a w (σ.aps ws) Q :=
  good_fin hrun hI (Evo.refl E w) hv rfl hg
-- move, assign
def semMove (nt : Nat) (dst : Option Nat) (x : Operand) : Rd := ev x (fin nt dst [])
theorem ok_move {o : Oper} {x : Operand} {Q : Exit → Act → World → Prop} {ws : List Wr} (ho : o.op = .move x ∨ o.op = .assign x) (hI : Inv F0 w0 E σ a w) (h : (semMove σ.nt o.dst x).gives σ ws) : Good P F0 w0 E o a w (σ.aps ws) Q := by
  obtain ⟨tv, hr, h⟩ := ev_gives hI h
  refine good_pure (v := a.eval x) ?_ hI hr h
  rcases ho with ho | ho <;> simp [execOp, ho]
-- pick
def semPick (nt : Nat) (dst : Option Nat) (c x y : Operand) : Rd := ev1 c fun b => match b with
  | .bool true => ev x (fin nt dst [])
  | .bool false => ev y (fin nt dst [])
  | _ => .fail
theorem ok_pick {o : Oper} {c x y : Operand} {Q : Exit → Act → World → Prop} {ws : List Wr} (ho : o.op = .pick c x y) (hI : Inv F0 w0 E σ a w) (h : (semPick σ.nt o.dst c x y).gives σ ws) : Good P F0 w0 E o a w (σ.aps ws) Q := by
  obtain ⟨b, hb, h⟩ := ev1_gives hI h
  split at h
  · obtain ⟨tv, hr, h⟩ := ev_gives hI h
    refine good_pure (v := a.eval x) ?_ hI hr h
    have hb : a.eval c = .bool true := hb
    simp [execOp, ho, hb, asBool]
  · obtain ⟨tv, hr, h⟩ := ev_gives hI h
    refine good_pure (v := a.eval y) ?_ hI hr h
    have hb : a.eval c = .bool false := hb
    simp [execOp, ho, hb, asBool]
  · exact absurd h Rd.gives_fail
-- whole numbers and bools
def bin (op : BinOp) (x y : AV) : Option (List Prop × AV) :=
  match x, y with
  | .int k p, .int k' q =>
    match op with
    | .shl => some ([0 ≤ q], .int k (k.wrap (p * 2 ^ (min q.toNat k.bits))))
    | .shr => some ([0 ≤ q], .int k (p.fdiv (2 ^ (min q.toNat k.bits))))
    | op => if k = k' then match op with
      | .add => some ([], .int k (k.wrap (p + q)))
      | .sub => some ([], .int k (k.wrap (p - q)))
      | .mul => some ([], .int k (k.wrap (p * q)))
      | .quo => some ([q ≠ 0], .int k (k.wrap (p.tdiv q)))
      | .rem => some ([q ≠ 0], .int k (p.tmod q))
      | .and => some ([], .int k (k.wrap (BitVec.ofInt k.bits p &&& BitVec.ofInt k.bits q).toNat))
      | .or => some ([], .int k (k.wrap (BitVec.ofInt k.bits p ||| BitVec.ofInt k.bits q).toNat))
      | .xor => some ([], .int k (k.wrap (BitVec.ofInt k.bits p ^^^ BitVec.ofInt k.bits q).toNat))
      | .andNot => some ([], .int k (k.wrap (BitVec.ofInt k.bits p &&& ~~~ BitVec.ofInt k.bits q).toNat))
      | .eql => some ([], .bool (p == q))
      | .neq => some ([], .bool (p != q))
      | .lss => some ([], .bool (decide (p < q)))
      | .leq => some ([], .bool (decide (p ≤ q)))
      | .gtr => some ([], .bool (decide (p > q)))
      | .geq => some ([], .bool (decide (p ≥ q)))
      | _ => none
      else none
  | _, _ => none
def needs : List Prop → Rd → Rd
  | [], r => r
  | p :: l, r => .need p (needs l r)
theorem needs_gives : ∀ {l : List Prop} {r : Rd} {ws : List Wr}, (needs l r).gives σ ws → AllP l ∧ r.gives σ ws
  | [], r, ws, h => ⟨trivial, h⟩
  | p :: l, r, ws, h => by
    obtain ⟨hp, h⟩ := Rd.gives_need.1 h
    obtain ⟨hl, h⟩ := needs_gives h
    exact ⟨⟨hp, hl⟩, h⟩
theorem bin_ok {op : BinOp} {x y r : AV} {l : List Prop} {v u : Value} {t : TypeId} (h : bin op x y = some (l, r)) (hl : AllP l) (hv : RepA E w v x) (hu : RepA E w u y) : ∃ z, (binOp op t v u).run P w = .ok z w ∧ RepA E w z r ∧ ∃ k p k' q, v = .int k p ∧ u = .int k' q := by
  unfold bin at h
  split at h
  · rename_i k p k' q
    have hv : v = .int k p := hv
    have hu : u = .int k' q := hu
    subst hv hu
    cases op <;> simp only at h
    case shl =>
      obtain ⟨rfl, rfl⟩ : [0 ≤ q] = l ∧ _ = r := by simpa using h
      have : ¬ q < 0 := by have := hl.1; omega
      exact ⟨_, by simp only [binOp, Op.shift, if_neg this]; rfl, rfl, _, _, _, _, rfl, rfl⟩
    case shr =>
      obtain ⟨rfl, rfl⟩ : [0 ≤ q] = l ∧ _ = r := by simpa using h
      have : ¬ q < 0 := by have := hl.1; omega
      exact ⟨_, by simp only [binOp, Op.shift, if_neg this]; rfl, rfl, _, _, _, _, rfl, rfl⟩
    all_goals
      split at h
      · rename_i hk
        subst hk
        first
        | (simp only [Option.some.injEq, Prod.mk.injEq] at h
           obtain ⟨rfl, rfl⟩ := h
           exact ⟨_, by simp only [binOp, ne_eq, not_true_eq_false, if_false, Op.intArith, Op.intBits, Op.intCmp]; rfl, rfl, _, _, _, _, rfl, rfl⟩)
        | (simp only [Option.some.injEq, Prod.mk.injEq] at h
           obtain ⟨rfl, rfl⟩ := h
           have hq := hl.1
           exact ⟨_, by simp only [binOp, ne_eq, not_true_eq_false, if_false, Op.intDiv, if_neg hq]; rfl, rfl, _, _, _, _, rfl, rfl⟩)
        | (simp at h)
      · cases h
  · cases h
def eq1 : Option IntKind → AV → AV → Option Bool
  | some k, .int k1 p, .int k2 q => if k1 = k ∧ k2 = k then some (p == q) else none
  | none, .bool p, .bool q => some (p == q)
  | _, _, _ => none
def eqs : List (Option IntKind) → List AV → List AV → Option Bool
  | [], [], [] => some true
  | k :: ks, x :: l, y :: m => match eq1 k x y, eqs ks l m with
    | some a, some b => some (a && b)
    | _, _ => none
  | _, _, _ => none
theorem eqs_cons {k : Option IntKind} {ks : List (Option IntKind)} {l m : List AV} {r : Bool} (h : eqs (k :: ks) l m = some r) : ∃ x l' y m' a b, l = x :: l' ∧ m = y :: m' ∧ eq1 k x y = some a ∧ eqs ks l' m' = some b ∧ r = (a && b) := by
  match l, m, h with
  | [], _, h => simp [eqs] at h
  | _ :: _, [], h => simp [eqs] at h
  | x :: l, y :: m, h =>
    simp only [eqs] at h
    split at h
    · rename_i a b h1 h2
      exact ⟨x, l, y, m, a, b, rfl, rfl, h1, h2, (Option.some.inj h).symm⟩
    · cases h
theorem eqs_app : ∀ (ks ks' : List (Option IntKind)) {l m : List AV} {r : Bool}, eqs (ks ++ ks') l m = some r → ∃ p q, eqs ks (l.take ks.length) (m.take ks.length) = some p ∧ eqs ks' (l.drop ks.length) (m.drop ks.length) = some q ∧ r = (p && q)
  | [], ks', l, m, r, h => ⟨true, r, by simp [eqs], by simpa using h, by simp⟩
  | k :: ks, ks', l, m, r, h => by
    obtain ⟨x, l', y, m', a, b, rfl, rfl, h1, h2, rfl⟩ := eqs_cons h
    obtain ⟨p, q, h3, h4, rfl⟩ := eqs_app ks ks' h2
    exact ⟨a && p, q, by simp [eqs, h1, h3], by simpa using h4, by rw [Bool.and_assoc]⟩
theorem eqs_len : ∀ {ks : List (Option IntKind)} {l m : List AV} {r : Bool}, eqs ks l m = some r → l.length = ks.length ∧ m.length = ks.length
  | [], l, m, r, h => by
    match l, m, h with
    | [], [], _ => simp
    | [], _ :: _, h => simp [eqs] at h
    | _ :: _, _, h => simp [eqs] at h
  | k :: ks, l, m, r, h => by
    obtain ⟨x, l', y, m', a, b, rfl, rfl, h1, h2, rfl⟩ := eqs_cons h
    obtain ⟨h3, h4⟩ := eqs_len h2
    simp [h3, h4]
theorem run_partW {t n : Nat} (hi : (P.info? t).map (·.size) = some n) (hd : ∀ d, P.underlying t = some d → dAgg d = false → n = 1) {d0 : TypeDesc} (hd0 : P.underlying t = some d0) (cs : Array Value) (off : Nat) (ho : off + n ≤ cs.size) :
    ∃ u, (part t cs off).run P w = .ok u w ∧ (dAgg d0 = true → u = .agg ((cs.toList.drop off).take n).toArray) ∧ (dAgg d0 = false → (cs.toList.drop off).take n = [u]) := by
  obtain ⟨f, hf, hn⟩ := Option.map_eq_some_iff.1 hi
  have hagg : (isAgg t).run P w = .ok (dAgg d0) w := by
    unfold isAgg
    rw [Sem.run_bind, run_underlying hd0 w]
    cases d0 <;> simp [dAgg]
  cases ha : dAgg d0
  · have h1 := hd d0 hd0 ha
    have hlt : off < cs.size := by omega
    refine ⟨cs[off], ?_, by simp, fun _ => ?_⟩
    · unfold part
      rw [Sem.run_bind, hagg, ha]
      simp [hlt]
    · rw [h1, List.drop_eq_getElem_cons (by simpa using hlt)]
      simp
  · refine ⟨.agg (cs.extract off (off + n)), ?_, fun _ => ?_, by simp⟩
    · unfold part
      rw [Sem.run_bind, hagg, ha]
      simp [sizeOf, typeInfo, hf, hn]
    · congr 1
      apply Array.ext'
      rw [Array.toList_extract]
      simp [List.extract_eq_take_drop]
theorem eqn_size {d t : Nat} {ks : List (Option IntKind)} (h : eqn P d t = some ks) : (P.info? t).map (·.size) = some ks.length ∧ ∃ dd, P.underlying t = some dd ∧ (dAgg dd = false → ks.length = 1) := by
  cases d with
  | zero => simp [eqn] at h
  | succ d =>
    unfold eqn at h
    split at h
    · rename_i h1 h2; obtain rfl := Option.some.inj h; exact ⟨h2, _, h1, fun _ => rfl⟩
    · rename_i h1 h2; obtain rfl := Option.some.inj h; exact ⟨h2, _, h1, fun _ => rfl⟩
    · rename_i fs m h1 h2
      split at h
      · cases h
      · split at h
        · split at h
          · rename_i hm
            obtain rfl := Option.some.inj h
            exact ⟨by rw [h2, hm], _, h1, fun h => by simp [dAgg] at h⟩
          · cases h
        · cases h
    · cases h
/-- A value as its cells: an aggregate or one. -/
def Shape (P : Program) (t : Nat) (v : Value) (vs : List Value) : Prop := ∀ dd, P.underlying t = some dd → (dAgg dd = true → v = .agg vs.toArray) ∧ (dAgg dd = false → vs = [v])
theorem run_eqF {d j : Nat} (ih : ∀ {t : Nat} {ks : List (Option IntKind)} {v u : Value} {vs us : List Value} {l m : List AV} {r : Bool}, eqn P d t = some ks → Shape P t v vs → Shape P t u us → RepL E w vs l → RepL E w us m → eqs ks l m = some r → (Op.equalIn (d + j) t v u).run P w = .ok r w)
    (xs ys : Array Value) : ∀ (fs : List Field) (off : Nat) (ks : List (Option IntKind)) {l m : List AV} {r : Bool}, eqnG P (eqn P d) fs off = some ks → RepL E w (xs.toList.drop off) l → RepL E w (ys.toList.drop off) m → eqs ks l m = some r → (Op.eqFields (d + j) xs ys fs).run P w = .ok r w
  | [], off, ks, l, m, r, h, hl, hm, he => by
    simp only [eqnG] at h
    obtain rfl := Option.some.inj h
    match l, m, he with
    | [], [], he => simp [eqs] at he; subst he; simp [Op.eqFields]
    | [], _ :: _, he => simp [eqs] at he
    | _ :: _, _, he => simp [eqs] at he
  | f :: fs, off, ks, l, m, r, h, hl, hm, he => by
    unfold eqnG at h
    split at h
    · cases h
    · rename_i hc
      simp only [Bool.or_eq_true, not_or, Bool.not_eq_true] at hc
      have hn : f.name ≠ "_" := by simpa using hc.1
      have ho : f.offset = off := by simpa using hc.2
      split at h
      · rename_i k0 k1 hk
        generalize hkk : k0 :: k1 = k at hk h
        have hkp : 0 < k.length := by rw [← hkk]; simp
        split at h
        · rename_i k' hk'
          obtain rfl := Option.some.inj h
          obtain ⟨p, q, h1, h2, rfl⟩ := eqs_app k k' he
          obtain ⟨hs, dd, hdd, hone⟩ := eqn_size hk
          obtain ⟨e1, e2⟩ := eqs_len he
          have l1 := hl.len
          have l2 := hm.len
          simp only [List.length_drop, Array.length_toList, List.length_append] at l1 l2 e1 e2
          have hd1 : ∀ d1, P.underlying f.type = some d1 → dAgg d1 = false → k.length = 1 := by
            intro d1 e; rw [hdd] at e; cases e; exact hone
          obtain ⟨u1, hu1, ha1, hb1⟩ := run_partW (w := w) hs hd1 hdd xs off (by omega)
          obtain ⟨u2, hu2, ha2, hb2⟩ := run_partW (w := w) hs hd1 hdd ys off (by omega)
          have he1 := ih (v := u1) (u := u2) hk (fun d2 e => by rw [hdd] at e; cases e; exact ⟨ha1, hb1⟩) (fun d2 e => by rw [hdd] at e; cases e; exact ⟨ha2, hb2⟩) (hl.take _) (hm.take _) h1
          have hr := run_eqF ih xs ys fs (off + k.length) k' hk' (by rw [← List.drop_drop]; exact hl.drop _) (by rw [← List.drop_drop]; exact hm.drop _) h2
          rw [Op.eqFields]
          simp only [if_pos hn, Sem.run_bind, ho, hu1, hu2, he1, Result.andThen_ok]
          cases p
          · simp
          · simpa using hr
        · cases h
      · cases h
theorem run_eqIn : ∀ (d j : Nat) {t : Nat} {ks : List (Option IntKind)} {v u : Value} {vs us : List Value} {l m : List AV} {r : Bool}, eqn P d t = some ks → Shape P t v vs → Shape P t u us → RepL E w vs l → RepL E w us m → eqs ks l m = some r → (Op.equalIn (d + j) t v u).run P w = .ok r w
  | 0, j, t, ks, _, _, _, _, _, _, _, h, _, _, _, _, _ => by simp [eqn] at h
  | d + 1, j, t, ks, v, u, vs, us, l, m, r, h, hv, hu, hl, hm, he => by
    have hdj : d + 1 + j = (d + j) + 1 := by omega
    rw [hdj]
    unfold eqn at h
    split at h
    · rename_i h1 h2
      obtain rfl := Option.some.inj h
      have hv := (hv _ h1).2 rfl
      have hu := (hu _ h1).2 rfl
      subst hv hu
      obtain ⟨x, l', y, m', a, b, rfl, rfl, h3, h4, rfl⟩ := eqs_cons he
      match l', m', h4 with
      | [], [], h4 =>
        simp [eqs] at h4
        subst h4
        unfold eq1 at h3
        split at h3
        · simp_all
        · obtain rfl := Option.some.inj h3
          obtain rfl : v = _ := hl.1
          obtain rfl : u = _ := hm.1
          simp [Op.equalIn, run_underlying h1 w]
        · cases h3
      | _ :: _, _, h4 => simp [eqs] at h4
      | [], _ :: _, h4 => simp [eqs] at h4
    · rename_i k h1 h2
      obtain rfl := Option.some.inj h
      have hv := (hv _ h1).2 rfl
      have hu := (hu _ h1).2 rfl
      subst hv hu
      obtain ⟨x, l', y, m', a, b, rfl, rfl, h3, h4, rfl⟩ := eqs_cons he
      match l', m', h4 with
      | [], [], h4 =>
        simp [eqs] at h4
        subst h4
        unfold eq1 at h3
        split at h3
        · split at h3
          · rename_i e1 e2 hk
            obtain ⟨rfl, rfl⟩ := hk
            obtain rfl := Option.some.inj h3
            obtain rfl : v = _ := hl.1
            obtain rfl : u = _ := hm.1
            simp [Op.equalIn, run_underlying h1 w]
          · cases h3
        · simp_all
        · cases h3
      | _ :: _, _, h4 => simp [eqs] at h4
      | [], _ :: _, h4 => simp [eqs] at h4
    · rename_i fs n h1 h2
      split at h
      · cases h
      · rename_i hst
        split at h
        · rename_i k hk
          split at h
          · obtain rfl := Option.some.inj h
            have hv := (hv _ h1).1 rfl
            have hu := (hu _ h1).1 rfl
            subst hv hu
            have hf : P.fieldsOf t = fs := by simp [Program.fieldsOf, h1]
            rw [run_equalIn_struct (P := P) w (d + j) t vs.toArray us.toArray (by rw [hf]; exact h1) (by simpa using hst), hf]
            exact run_eqF (fun a b c d' e f => run_eqIn d j a b c d' e f) vs.toArray us.toArray fs.toList 0 k hk (by simpa using hl) (by simpa using hm) he
          · cases h
        · cases h
    · cases h
end
end Go.Proofs.YtkhjemahenkdiaaGreatDoor.V
