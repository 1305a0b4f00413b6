/- What an operation reads and writes, without memory; each against the model. Part 3: operations that touch no block. -/
import Derived.Test.YtkhjemahenkdiaaGreatDoorVD
import Derived.Laws.BytesString
namespace Go.Proofs.YtkhjemahenkdiaaGreatDoor.V
open Go Go.RowKit
set_option linter.unusedVariables false
set_option linter.unusedSimpArgs false
section
variable {P : Program} {F0 : Nat → Prop} {w0 : World} {E : En} {σ : St} {a : Act} {w : World} {tt : TT}
theorem good_one {o : Oper} {Q : Exit → Act → World → Prop} {v : Value} {x : AV} {ws : List Wr}
    (hrun : (execOp a.eval o).run P w = .ok (.value v) w) (hI : Inv F0 w0 E σ a w)
    (hg : (fin σ.nt o.dst [] (.cv (.one x))).gives σ ws) (hv : RepA E w v x) : Good P F0 w0 E o a w (σ.aps ws) Q :=
  good_pure hrun hI (show RepT E w v (.cv (.one x)) from hv) hg
def semUn (nt : Nat) (dst : Option Nat) (op : UnOp) (x : Operand) : Rd := ev1 x fun v => match op, v with
  | .not, .bool b => fin nt dst [] (.cv (.one (.bool (!b))))
  | .neg, .int k n => fin nt dst [] (.cv (.one (.int k (k.wrap (0 - n)))))
  | _, _ => .fail
theorem ok_un {o : Oper} {op : UnOp} {t : Nat} {x : Operand} {Q : Exit → Act → World → Prop} {ws : List Wr} (ho : o.op = .unOp op t x) (hI : Inv F0 w0 E σ a w) (h : (semUn σ.nt o.dst op x).gives σ ws) : Good P F0 w0 E o a w (σ.aps ws) Q := by
  replace h := ev1_gives hI h
  obtain ⟨v, hv, h⟩ := h
  split at h
  · rename_i b
    have e : a.eval x = .bool b := hv
    exact good_one (v := .bool (!b)) (by simp [execOp, ho, e, Op.unary]) hI h rfl
  · rename_i k n
    have e : a.eval x = .int k n := hv
    exact good_one (v := .int k (k.wrap (0 - n))) (by simp [execOp, ho, e, Op.unary, Op.intArith]) hI h rfl
  · exact absurd h Rd.gives_fail
theorem TF.int {t : Nat} {i : TI} (hT : TF P t i) {k : IntKind} (h : i.ty = some (.int k)) : P.underlying t = some (.int k) := by
  obtain ⟨f, d, z, h1, h2, h3, h4, h5, h6, h7, h8, h9, h10, h11, _⟩ := hT.ex
  unfold tyOk at h11
  rw [h] at h11
  simp only [Bool.and_eq_true] at h11
  have := h11.1
  cases d <;> simp_all
def semConv (tt : TT) (nt : Nat) (dst : Option Nat) (s d : Nat) (x : Operand) : Rd := ev1 x fun v => match v, tt.at s, tt.at d with
  | .int _ n, some _, some i => match i.ty with
    | some (.int k) => fin nt dst [] (.cv (.one (.int k (k.wrap n))))
    | _ => .fail
  | .sl (.int .u8) xs _, some i, some j => match i.elem with
    | some e => match tt.at e with
      | some ie => match ie.ty with
        | some (.int .u8) => cond (j.str && j.ty.isNone) (fin nt dst [] (.cv (.one (.str xs)))) .fail
        | _ => .fail
      | none => .fail
    | none => .fail
  | _, _, _ => .fail
theorem TF.str {t : Nat} {i : TI} (hT : TF P t i) (h : i.str = true) (h0 : i.ty = none) : P.underlying t = some .string := by
  obtain ⟨f, d, z, h1, h2, h3, h4, h5, h6, h7, h8, h9, h10, h11, _⟩ := hT.ex
  unfold tyOk at h11
  rw [h0, h] at h11
  cases d <;> simp_all
theorem TF.slice' {t : Nat} {i : TI} (hT : TF P t i) {e : Nat} (h : i.elem = some e) : P.underlying t = some (.slice e) := by
  obtain ⟨f, d, z, h1, h2, h3, h4, h5, h6, h7, h8, h9, h10, h11, _⟩ := hT.ex
  unfold dOk at h10
  cases d <;> simp_all
theorem el_u8 {F : Nat → Prop} : ∀ {xs : List Int} {inner : List Value}, El (RepD F w (.int .u8)) xs inner → inner = xs.map (Value.int .u8)
  | [], _, h => h
  | x :: xs, _, ⟨c, r, e, h, k⟩ => by rw [e, show c = [Value.int .u8 x] from h, el_u8 k]; rfl
theorem run_bytes {F : Nat → Prop} {xs : List Int} {v : Value} {A : Option Addr} {n c : Nat} (h : RepD F w (.slice (.int .u8)) xs [v]) (ev : v = .slice A n c) : (Conv.bytesToString (.slice A n c)).run P w = .ok (.string (strOf xs)) w := by
  obtain ⟨A', c', inner, e1, h2, h3, h4⟩ := h
  subst ev
  simp only [List.cons.injEq, Value.slice.injEq, and_true] at e1
  obtain ⟨rfl, rfl, rfl⟩ := e1
  have hin := el_u8 h3
  subst hin
  cases xs with
  | nil =>
    cases A with
    | none => simp [Conv.bytesToString, strOf, Sem.run_pure]
    | some b => exact run_bytesToString (P := P) w b 0 c [] (by simp [loadCells, loadCellsFrom, Sem.run_pure])
  | cons x xs =>
    obtain ⟨b, o, rfl, _, _⟩ := h4 0 (.int .u8 x) rfl
    refine run_bytesToString (P := P) w ⟨b, o, none⟩ _ c (x :: xs) ?_
    have hl := run_loadCells_list (P := P) w ⟨b, o, none⟩ ((x :: xs).map (Value.int .u8)) (fun j u hu => by
      obtain ⟨b', o', e, _, hc⟩ := h4 j u hu
      simp only [Option.some.injEq, Addr.mk.injEq, and_true] at e
      obtain ⟨rfl, rfl⟩ := e
      unfold Addr.add
      split
      · rename_i h0
        have h0 : j = 0 := by simpa using h0
        subst h0
        simpa using hc
      · exact hc)
    simpa using hl
theorem ok_conv (hck : tt.ck P = true) {o : Oper} {s d : Nat} {x : Operand} {Q : Exit → Act → World → Prop} {ws : List Wr} (ho : o.op = .convert s d x) (hI : Inv F0 w0 E σ a w) (h : (semConv tt σ.nt o.dst s d x).gives σ ws) : Good P F0 w0 E o a w (σ.aps ws) Q := by
  replace h := ev1_gives hI h
  obtain ⟨v, hv, h⟩ := h
  split at h
  · rename_i k' n i' i hs hd
    split at h
    · rename_i k hk
      have e : a.eval x = .int k' n := hv
      obtain ⟨f, d', z, h1, h2, _⟩ := (TT.fact hck hs).ex
      have h3 := TF.int (TT.fact hck hd) hk
      refine good_one (v := .int k (k.wrap n)) ?_ hI h rfl
      simp [execOp, ho, e, convert, run_underlying h2 w, run_underlying h3 w, Conv.intToInt]
    · exact absurd h Rd.gives_fail
  · rename_i xs c i j hs hd
    split at h
    · rename_i e he
      split at h
      · rename_i ie hie
        split at h
        · rename_i hty
          cases hb : (j.str && j.ty.isNone)
          · rw [hb] at h; exact absurd h Rd.gives_fail
          · rw [hb, cond_true] at h
            simp only [Bool.and_eq_true] at hb
            obtain ⟨A, n, c', ex⟩ : ∃ A n c', a.eval x = .slice A n c' := by
              obtain ⟨A, c', inner, e1, _⟩ := hv.1
              exact ⟨A, _, c', by simpa using e1⟩
            refine good_one (v := .string (strOf xs)) ?_ hI h rfl
            have hr := run_bytes (P := P) hv.1 ex
            have hsl := TF.slice' (TT.fact hck hs) he
            have hel := TF.int (TT.fact hck hie) hty
            have hst := TF.str (TT.fact hck hd) hb.1 (by simpa using hb.2)
            simp [execOp, ho, ex, run_convert_bytes_string w s d e A n c' hsl hel hst, hr]
        · exact absurd h Rd.gives_fail
      · exact absurd h Rd.gives_fail
    · exact absurd h Rd.gives_fail
  · exact absurd h Rd.gives_fail
theorem flds_get : ∀ {fs : List Field} {l : List (Nat × Nat)} (j : Nat) {o t : Nat}, flds P fs l = true → l[j]? = some (o, t) → ∃ f inf, fs[j]? = some f ∧ f.offset = o ∧ f.type = t ∧ P.info? t = some inf ∧ 0 < inf.size
  | [], [], j, o, t, _, h => by simp at h
  | [], _ :: _, j, o, t, h, _ => by simp [flds] at h
  | _ :: _, [], j, o, t, h, _ => by simp [flds] at h
  | f :: fs, (o', t') :: l, 0, o, t, hf, h => by
    simp only [flds, Bool.and_eq_true] at hf
    simp at h
    obtain ⟨rfl, rfl⟩ := h
    obtain ⟨⟨⟨h1, h2⟩, h3⟩, h4⟩ := hf
    cases hi : P.info? t' with
    | none => rw [hi] at h3; simp at h3
    | some inf => rw [hi] at h3; exact ⟨f, inf, rfl, by simpa using h1, by simpa using h2, rfl, by simpa using h3⟩
  | f :: fs, (o', t') :: l, j + 1, o, t, hf, h => by
    simp only [flds, Bool.and_eq_true] at hf
    exact flds_get (fs := fs) (l := l) j hf.2 (by simpa using h)
theorem flds_map : ∀ {fs : List Field} {l : List (Nat × Nat)}, flds P fs l = true → ∃ pl : List (Nat × Nat), fs.mapM (fun f => (P.info? f.type).map fun i => (f.offset, i.size)) = some pl ∧ ∀ (j o t : Nat) (inf : TypeInfo), l[j]? = some (o, t) → P.info? t = some inf → pl[j]? = some (o, inf.size)
  | [], [], _ => ⟨[], by simp, fun j o t inf h => by simp at h⟩
  | [], _ :: _, h => by simp [flds] at h
  | _ :: _, [], h => by simp [flds] at h
  | f :: fs, (o', t') :: l, h => by
    simp only [flds, Bool.and_eq_true] at h
    obtain ⟨⟨⟨h1, h2⟩, h3⟩, h4⟩ := h
    obtain ⟨pl, hp, hj⟩ := flds_map h4
    have h1 : f.offset = o' := by simpa using h1
    have h2 : f.type = t' := by simpa using h2
    cases hi : P.info? t' with
    | none => rw [hi] at h3; simp at h3
    | some inf =>
      refine ⟨(o', inf.size) :: pl, by simp [List.mapM_cons, h2, hi, hp, h1], fun j o t inf' h hinf => ?_⟩
      cases j with
      | zero =>
        simp at h
        obtain ⟨rfl, rfl⟩ := h
        rw [hi] at hinf
        cases hinf
        rfl
      | succ j => simpa using hj j o t inf' (by simpa using h) hinf
theorem TF.struct {t : Nat} {i : TI} (hT : TF P t i) {j o u : Nat} (h : i.fields[j]? = some (o, u)) : ∃ fs f inf, P.underlying t = some (.struct fs) ∧ flds P fs.toList i.fields = true ∧ fs[j]? = some f ∧ f.offset = o ∧ f.type = u ∧ P.info? u = some inf ∧ 0 < inf.size ∧ i.agg = true := by
  obtain ⟨f, d, z, h1, h2, h3, h4, h5, h6, h7, h8, h9, h10, h11, _⟩ := hT.ex
  unfold dOk at h10
  split at h10
  · rename_i fs
    simp only [Bool.and_eq_true] at h10
    obtain ⟨f, inf, e1, e2, e3, e4, e5⟩ := flds_get j h10.1.1.2 h
    exact ⟨fs, f, inf, h2, h10.1.1.2, by simpa using e1, e2, e3, e4, e5, h10.1.1.1⟩
  all_goals
    have : i.fields = [] := by simp_all
    rw [this] at h
    simp at h
theorem Addr.add_plain (b o n : Nat) : (⟨b, o, none⟩ : Addr).add n = ⟨b, o + n, none⟩ := by unfold Addr.add; split <;> simp_all
def fst (l : List (Nat × Nat)) (j : Nat) : Option (Nat × Nat) := match l, j with
  | [], _ => none
  | x :: _, 0 => some x
  | _ :: r, j + 1 => fst r j
theorem fst_eq : ∀ (l : List (Nat × Nat)) (j : Nat), fst l j = l[j]?
  | [], j => by simp [fst]
  | x :: _, 0 => by simp [fst]
  | _ :: r, j + 1 => by simp [fst, fst_eq r j]
def semFieldAddr (tt : TT) (nt : Nat) (dst : Option Nat) (s : Nat) (x : Operand) (f : Nat) : Rd := ev1 x fun v => match tt.at s with
  | some i => match fst i.fields f, v with
    | some (o, _), .ptr k off => fin nt dst [] (.cv (.one (.ptr k (off + o))))
    | some (o, _), .eptr k e j off => fin nt dst [] (.cv (.one (.eptr k e j (off + o))))
    | some (o, _), .rptr e z off => fin nt dst [] (.cv (.one (.rptr e z (off + o))))
    | _, _ => .fail
  | none => .fail
theorem ok_fieldAddr (hck : tt.ck P = true) {o : Oper} {s f : Nat} {x : Operand} {Q : Exit → Act → World → Prop} {ws : List Wr} (ho : o.op = .fieldAddr s x f) (hI : Inv F0 w0 E σ a w) (h : (semFieldAddr tt σ.nt o.dst s x f).gives σ ws) : Good P F0 w0 E o a w (σ.aps ws) Q := by
  replace h := ev1_gives hI h
  obtain ⟨v, hv, h⟩ := h
  have run : ∀ {i : TI} {off u b p : Nat}, tt.at s = some i → fst i.fields f = some (off, u) → a.eval x = .pointer (some ⟨b, p, none⟩) → (execOp a.eval o).run P w = .ok (.value (.pointer (some ⟨b, p + off, none⟩))) w := by
    intro i off u b p hi hf e
    rw [fst_eq] at hf
    obtain ⟨fs, fd, inf, e1, e2, e3, e4, e5, e6, e7, _⟩ := (TT.fact hck hi).struct hf
    have hz : inf.size ≠ 0 := by omega
    simp [execOp, ho, e, Instr.fieldAt, run_underlying e1 w, e3, Instr.sureAddr, fieldPlace, sizeOf, typeInfo, e5, e6, hz, e4, Addr.add_plain]
  split at h
  · rename_i i hi
    split at h
    · rename_i o' u k off hf
      obtain ⟨b, hb, e⟩ := hv
      exact good_one (run hi hf e) hI h ⟨b, hb, rfl⟩
    · rename_i o' u k e j off hf
      obtain ⟨g, o2, n, c, h1, h2, h3, e'⟩ := hv
      exact good_one (run hi hf e') hI h ⟨g, o2, n, c, h1, h2, h3, by rw [Nat.add_assoc]⟩
    · rename_i o' u e z off hf
      obtain ⟨b, o2, cs, e', h1⟩ := hv
      exact good_one (run hi hf e') hI h ⟨b, o2, cs, by rw [Nat.add_assoc], h1⟩
    · exact absurd h Rd.gives_fail
  · exact absurd h Rd.gives_fail
theorem mkC_ok {agg : Bool} {l : List AV} {c : CV} {v : Value} {vs : List Value} (h : mkC agg l = some c) (hl : RepL E w vs l) (h1 : agg = true → v = .agg vs.toArray) (h2 : agg = false → vs = [v]) : RepC E w v c := by
  unfold mkC at h
  split at h
  · obtain rfl := Option.some.inj h
    exact ⟨vs.toArray, h1 rfl, hl⟩
  · obtain rfl := Option.some.inj h
    rw [h2 rfl] at hl
    exact hl.1
  · cases h
theorem mkC_one {agg : Bool} {l : List AV} {c : CV} (h : mkC agg l = some c) (ha : agg = false) : l.length = 1 := by
  unfold mkC at h
  split at h <;> simp_all
def semField (tt : TT) (nt : Nat) (dst : Option Nat) (s : Nat) (x : Operand) (f : Nat) : Rd := evc x fun c => match tt.at s, c with
  | some i, .agg l => match fst i.fields f with
    | some (o, t) => match tt.at t with
      | some j => match mkC j.agg ((l.drop o).take j.n) with
        | some c => cond (Nat.ble (o + j.n) l.length) (fin nt dst [] (.cv c)) .fail
        | none => .fail
      | none => .fail
    | none => .fail
  | _, _ => .fail
theorem ok_field (hck : tt.ck P = true) {o : Oper} {s f : Nat} {x : Operand} {Q : Exit → Act → World → Prop} {ws : List Wr} (ho : o.op = .field s x f) (hI : Inv F0 w0 E σ a w) (h : (semField tt σ.nt o.dst s x f).gives σ ws) : Good P F0 w0 E o a w (σ.aps ws) Q := by
  replace h := evc_gives hI h
  obtain ⟨c, hc, h⟩ := h
  split at h
  · rename_i i l hi
    split at h
    · rename_i o' t hf
      split at h
      · rename_i j hj
        split at h
        · rename_i c hm
          cases hle : Nat.ble (o' + j.n) l.length
          · rw [hle] at h; exact absurd h Rd.gives_fail
          · rw [hle] at h
            have hle := Nat.le_of_ble_eq_true hle
            obtain ⟨cs, e, hl⟩ := hc
            have hlen := hl.len
            rw [Array.length_toList] at hlen
            rw [fst_eq] at hf
            obtain ⟨fs, fd, inf, e1, e2, e3, e4, e5, e6, e7, _⟩ := (TT.fact hck hi).struct hf
            have hone : j.agg = false → j.n = 1 := by
              intro ha
              have := mkC_one hm ha
              rw [List.length_take, List.length_drop] at this
              omega
            obtain ⟨u, hu, h1, h2⟩ := run_part (TT.fact hck hj) w (cs := cs) (off := o') (v := (cs.toList.drop o').take j.n) (by rw [List.length_take, List.length_drop, Array.length_toList]; omega) (by omega) rfl hone
            refine good_pure (v := u) ?_ hI (show RepT E w _ (.cv c) from mkC_ok hm ((hl.drop o').take j.n) h1 h2) h
            rw [← e5] at hu
            simp [execOp, ho, e, Instr.field, run_underlying e1 w, e3, asAgg, e4, hu]
        · exact absurd h Rd.gives_fail
      · exact absurd h Rd.gives_fail
    · exact absurd h Rd.gives_fail
  · exact absurd h Rd.gives_fail
def nth {α : Type} : List α → Nat → Option α
  | [], _ => none
  | x :: _, 0 => some x
  | _ :: r, j + 1 => nth r j
theorem nth_eq {α : Type} : ∀ (l : List α) (j : Nat), nth l j = l[j]?
  | [], j => by simp [nth]
  | x :: _, 0 => by simp [nth]
  | _ :: r, j + 1 => by simp [nth, nth_eq r j]
def semExtract (nt : Nat) (dst : Option Nat) (x : Operand) (j : Nat) : Rd := ev x fun tv => match tv with
  | .tup l => match nth l j with
    | some c => fin nt dst [] (.cv c)
    | none => .fail
  | _ => .fail
theorem ok_extract {o : Oper} {j : Nat} {x : Operand} {Q : Exit → Act → World → Prop} {ws : List Wr} (ho : o.op = .extract x j) (hI : Inv F0 w0 E σ a w) (h : (semExtract σ.nt o.dst x j).gives σ ws) : Good P F0 w0 E o a w (σ.aps ws) Q := by
  replace h := ev_gives hI h
  obtain ⟨tv, hr, h⟩ := h
  split at h
  · rename_i l
    split at h
    · rename_i c hn
      rw [nth_eq] at hn
      obtain ⟨vs, e, hl⟩ := hr
      obtain ⟨v, hv, hc⟩ := hl.get hn
      refine good_pure (v := v) ?_ hI (show RepT E w _ (.cv c) from hc) h
      have : vs[j]? = some v := by simpa using hv
      simp [execOp, ho, e, Instr.extract, this]
    · exact absurd h Rd.gives_fail
  · exact absurd h Rd.gives_fail
def evs : List Operand → (List (Nat × Nat) → Rd) → Rd
  | [], k => k []
  | x :: r, k => ev1 x fun v => match v with
    | .ptr b o => evs r fun l => k ((b, o) :: l)
    | _ => .fail
theorem evs_gives (hI : Inv F0 w0 E σ a w) : ∀ {xs : List Operand} {k : List (Nat × Nat) → Rd} {ws : List Wr}, (evs xs k).gives σ ws → ∃ l, All2 (PtrOk E) (xs.map a.eval) l ∧ (k l).gives σ ws
  | [], k, ws, h => ⟨[], trivial, h⟩
  | x :: r, k, ws, h => by
    replace h := ev1_gives hI h
    obtain ⟨v, hv, h⟩ := h
    split at h
    · rename_i b o
      replace h := evs_gives hI h
      obtain ⟨l, hl, h⟩ := h
      exact ⟨(b, o) :: l, ⟨hv, hl⟩, h⟩
    · exact absurd h Rd.gives_fail
def semMakeFunc (nt : Nat) (dst : Option Nat) (fn : Fn) (first caps : Array Operand) : Rd := match fn with
  | .func f => evs first.toList fun l => evs caps.toList fun m => fin nt dst [] (.cv (.one (.fn f l m)))
  | _ => .fail
theorem ok_makeFunc {o : Oper} {fn : Fn} {first caps : Array Operand} {Q : Exit → Act → World → Prop} {ws : List Wr} (ho : o.op = .makeFunc fn first caps) (hI : Inv F0 w0 E σ a w) (h : (semMakeFunc σ.nt o.dst fn first caps).gives σ ws) : Good P F0 w0 E o a w (σ.aps ws) Q := by
  unfold semMakeFunc at h
  split at h
  · rename_i f
    replace h := evs_gives hI h
    obtain ⟨l, hl, h⟩ := h
    replace h := evs_gives hI h
    obtain ⟨m, hm, h⟩ := h
    refine good_one (v := .func (.func f) (first.map a.eval) (caps.map a.eval)) ?_ hI h ⟨_, _, rfl, by simpa using hl, by simpa using hm⟩
    simp [execOp, ho, Instr.makeFunc]
  · exact absurd h Rd.gives_fail
def semNilCheck (nt : Nat) (dst : Option Nat) (x : Operand) : Rd := ev1 x fun v => match v with
  | .ptr k o => fin nt dst [] (.cv (.one (.ptr k o)))
  | .eptr k e i o => fin nt dst [] (.cv (.one (.eptr k e i o)))
  | .rptr e z o => fin nt dst [] (.cv (.one (.rptr e z o)))
  | .fn f l m => fin nt dst [] (.cv (.one (.fn f l m)))
  | _ => .fail
theorem ok_nilCheck {o : Oper} {x : Operand} {Q : Exit → Act → World → Prop} {ws : List Wr} (ho : o.op = .nilCheck x) (hI : Inv F0 w0 E σ a w) (h : (semNilCheck σ.nt o.dst x).gives σ ws) : Good P F0 w0 E o a w (σ.aps ws) Q := by
  replace h := ev1_gives hI h
  obtain ⟨v, hv, h⟩ := h
  split at h
  · have hv' := hv
    obtain ⟨b, _, e⟩ := hv'
    exact good_one (v := a.eval x) (by simp [execOp, ho, e]) hI h hv
  · have hv' := hv
    obtain ⟨g, o', n, c, _, _, _, e⟩ := hv'
    exact good_one (v := a.eval x) (by simp [execOp, ho, e]) hI h hv
  · have hv' := hv
    obtain ⟨b, o', cs, e, _⟩ := hv'
    exact good_one (v := a.eval x) (by simp [execOp, ho, e]) hI h hv
  · have hv' := hv
    obtain ⟨p, q, e, _⟩ := hv'
    exact good_one (v := a.eval x) (by simp [execOp, ho, e]) hI h hv
  · exact absurd h Rd.gives_fail
end
end Go.Proofs.YtkhjemahenkdiaaGreatDoor.V
