/- What an operation reads and writes, without memory; each against the model. Part: maps of plain things, of one's own. -/
import Derived.Test.YtajddhechcneoaaVMB
import Derived.ChangeKeysEq
namespace Go.Proofs.Ytajddhechcneoaa.V
open Go Go.RowKit
open Go.MapKept (IsKey run_checkKey run_findKey run_setObj_map heap_set)
set_option linter.unusedVariables false
set_option linter.unusedSimpArgs false
def keq : (t : Ty) → t.T → t.T → Bool
  | .int _, x, y => x == y
  | .bool, x, y => x == y
  | .slice _, _, _ => false
  | .pair a b, x, y => keq a x.1 y.1 && keq b x.2 y.2
def dmHas (K : Ty) {V : Ty} (xs : List (K.T × V.T)) (x : K.T) : Bool := xs.any fun p => keq K x p.1
def dmGet (K : Ty) {V : Ty} (xs : List (K.T × V.T)) (x : K.T) (z : V.T) : V.T := ((xs.find? fun p => keq K x p.1).map (·.2)).getD z
def dmSet (K : Ty) {V : Ty} : List (K.T × V.T) → K.T → V.T → List (K.T × V.T)
  | [], _, _ => []
  | p :: r, x, y => if keq K x p.1 = true then (x, y) :: r else p :: dmSet K r x y
def dmPut (K : Ty) {V : Ty} (xs : List (K.T × V.T)) (x : K.T) (y : V.T) : List (K.T × V.T) := if dmHas K xs x = true then dmSet K xs x y else xs ++ [(x, y)]
section
variable {P : Program} {F0 : Nat → Prop} {w0 : World} {E : En} {σ : St} {a : Act} {w : World} {tt : TT}
theorem szp : ∀ t : Ty, 0 < t.sz
  | .int _ => Nat.one_pos
  | .bool => Nat.one_pos
  | .slice _ => Nat.one_pos
  | .pair a b => Nat.lt_of_lt_of_le (szp a) (Nat.le_add_right _ _)
theorem keyF_eq {d j : Nat} (ih : ∀ {t : Nat} {τ : Ty} {x y : τ.T} {v u : Value}, keyK P d t τ = true → flB τ = true → Shape P t v (flV τ x) → Shape P t u (flV τ y) → (Op.equalIn (d + j) t v u).run P w = .ok (keq τ x y) w)
    (hsz : ∀ {t : Nat} {τ : Ty}, keyK P d t τ = true → (P.info? t).map (·.size) = some τ.sz ∧ ∃ dd, P.underlying t = some dd ∧ (dAgg dd = false → τ.sz = 1)) (xs ys : Array Value) :
    ∀ (fs : List Field) (off : Nat) (τ : Ty) {x y : τ.T}, keyF (keyK P d) fs off τ = true → flB τ = true → xs.toList.drop off = flV τ x → ys.toList.drop off = flV τ y → (Op.eqFields (d + j) xs ys fs).run P w = .ok (keq τ x y) w
  | [f], off, τ, x, y, h, hf, hx, hy => by
    simp only [keyF, Bool.and_eq_true, bne_iff_ne, ne_eq, beq_iff_eq] at h
    obtain ⟨⟨hn, ho⟩, hk⟩ := h
    obtain ⟨hs, dd, hdd, hone⟩ := hsz hk
    have hd1 : ∀ d1, P.underlying f.type = some d1 → dAgg d1 = false → τ.sz = 1 := fun d1 e => by rw [hdd] at e; cases e; exact hone
    have lx : off + τ.sz ≤ xs.size := by have := congrArg List.length hx; rw [List.length_drop, flV_len x hf, Array.length_toList] at this; have := szp τ; omega
    have ly : off + τ.sz ≤ ys.size := by have := congrArg List.length hy; rw [List.length_drop, flV_len y hf, Array.length_toList] at this; have := szp τ; omega
    obtain ⟨u1, hu1, ha1, hb1⟩ := run_partW (w := w) hs hd1 hdd xs off lx
    obtain ⟨u2, hu2, ha2, hb2⟩ := run_partW (w := w) hs hd1 hdd ys off ly
    rw [hx, List.take_of_length_le (by rw [flV_len x hf]; exact Nat.le_refl _)] at ha1 hb1
    rw [hy, List.take_of_length_le (by rw [flV_len y hf]; exact Nat.le_refl _)] at ha2 hb2
    have he := ih (v := u1) (u := u2) hk hf (fun d2 e => by rw [hdd] at e; cases e; exact ⟨ha1, hb1⟩) (fun d2 e => by rw [hdd] at e; cases e; exact ⟨ha2, hb2⟩)
    rw [Op.eqFields]
    simp only [if_pos hn, Sem.run_bind, ho, hu1, hu2, he, Result.andThen_ok]
    cases keq τ x y <;> simp [Op.eqFields]
  | f :: g :: r, off, .pair a b, x, y, h, hf, hx, hy => by
    simp only [keyF, Bool.and_eq_true, bne_iff_ne, ne_eq, beq_iff_eq] at h
    obtain ⟨⟨⟨hn, ho⟩, hk⟩, hrest⟩ := h
    simp only [flB, Bool.and_eq_true] at hf
    obtain ⟨hs, dd, hdd, hone⟩ := hsz hk
    have hd1 : ∀ d1, P.underlying f.type = some d1 → dAgg d1 = false → a.sz = 1 := fun d1 e => by rw [hdd] at e; cases e; exact hone
    have hx' : xs.toList.drop off = flV a x.1 ++ flV b x.2 := hx
    have hy' : ys.toList.drop off = flV a y.1 ++ flV b y.2 := hy
    have l1 := flV_len x.1 hf.1
    have l2 := flV_len y.1 hf.1
    have lx : off + a.sz ≤ xs.size := by have := congrArg List.length hx'; rw [List.length_drop, List.length_append, l1, flV_len x.2 hf.2, Array.length_toList] at this; have := szp a; omega
    have ly : off + a.sz ≤ ys.size := by have := congrArg List.length hy'; rw [List.length_drop, List.length_append, l2, flV_len y.2 hf.2, Array.length_toList] at this; have := szp a; omega
    obtain ⟨u1, hu1, ha1, hb1⟩ := run_partW (w := w) hs hd1 hdd xs off lx
    obtain ⟨u2, hu2, ha2, hb2⟩ := run_partW (w := w) hs hd1 hdd ys off ly
    rw [hx', ← l1, List.take_left'  rfl] at ha1 hb1
    rw [hy', ← l2, List.take_left' rfl] at ha2 hb2
    have he := ih (v := u1) (u := u2) hk hf.1 (fun d2 e => by rw [hdd] at e; cases e; exact ⟨ha1, hb1⟩) (fun d2 e => by rw [hdd] at e; cases e; exact ⟨ha2, hb2⟩)
    have hr := keyF_eq ih hsz xs ys (g :: r) (off + a.sz) b (x := x.2) (y := y.2) hrest hf.2 (by rw [← List.drop_drop, hx', ← l1, List.drop_left' rfl]) (by rw [← List.drop_drop, hy', ← l2, List.drop_left' rfl])
    rw [Op.eqFields]
    simp only [if_pos hn, Sem.run_bind, ho, hu1, hu2, he, Result.andThen_ok]
    show _ = Result.ok (keq a x.1 y.1 && keq b x.2 y.2) w
    cases keq a x.1 y.1
    · simp
    · simpa using hr
  | [], off, τ, _, _, h, _, _, _ => by simp [keyF] at h
  | _ :: _ :: _, off, .int _, _, _, h, _, _, _ => by simp [keyF] at h
  | _ :: _ :: _, off, .bool, _, _, h, _, _, _ => by simp [keyF] at h
  | _ :: _ :: _, off, .slice _, _, _, h, _, _, _ => by simp [keyF] at h
theorem keyK_size {d t : Nat} {τ : Ty} (h : keyK P d t τ = true) : (P.info? t).map (·.size) = some τ.sz ∧ ∃ dd, P.underlying t = some dd ∧ (dAgg dd = false → τ.sz = 1) := by
  cases d with
  | zero => simp [keyK] at h
  | succ d =>
    unfold keyK at h
    rw [Bool.and_eq_true, beq_iff_eq] at h
    refine ⟨h.1, ?_⟩
    have h2 := h.2
    split at h2
    · rename_i e; exact ⟨_, e, fun _ => rfl⟩
    · rename_i e; exact ⟨_, e, fun _ => rfl⟩
    · rename_i e; exact ⟨_, e, fun h => by simp [dAgg] at h⟩
    · rename_i e; exact ⟨_, e, fun h => by simp [dAgg] at h⟩
    · cases h2
theorem keyK_eq : ∀ (d j : Nat) {t : Nat} {τ : Ty} {x y : τ.T} {v u : Value}, keyK P d t τ = true → flB τ = true → Shape P t v (flV τ x) → Shape P t u (flV τ y) → (Op.equalIn (d + j) t v u).run P w = .ok (keq τ x y) w
  | 0, j, t, τ, _, _, _, _, h, _, _, _ => by simp [keyK] at h
  | d + 1, j, t, τ, x, y, v, u, h, hf, hv, hu => by
    rw [show d + 1 + j = (d + j) + 1 by omega]
    unfold keyK at h
    rw [Bool.and_eq_true, beq_iff_eq] at h
    obtain ⟨h0, h⟩ := h
    split at h
    · rename_i k k' h1
      obtain rfl := of_decide_eq_true h
      have hv := (hv _ h1).2 rfl
      have hu := (hu _ h1).2 rfl
      simp only [flV, List.cons.injEq, and_true] at hv hu
      subst hv hu
      simp [Op.equalIn, run_underlying h1 w, keq]
    · rename_i h1
      have hv := (hv _ h1).2 rfl
      have hu := (hu _ h1).2 rfl
      simp only [flV, List.cons.injEq, and_true] at hv hu
      subst hv hu
      simp [Op.equalIn, run_underlying h1 w, keq]
    · rename_i n e a b h1
      simp only [Bool.and_eq_true, beq_iff_eq] at h
      obtain ⟨⟨rfl, hab⟩, hka, hkb⟩ := h
      simp only [flB, Bool.and_eq_true] at hf
      have hv := (hv _ h1).1 rfl
      have hu := (hu _ h1).1 rfl
      subst hv hu
      obtain ⟨hs, dd, hdd, hone⟩ := keyK_size hka
      obtain ⟨hs2, _⟩ := keyK_size hkb
      obtain ⟨i, hi, hin⟩ := Option.map_eq_some_iff.1 hs
      have hc : P.cellsOf e = a.sz := by simp [Program.cellsOf, hi, hin]
      have hd1 : ∀ d1, P.underlying e = some d1 → dAgg d1 = false → a.sz = 1 := fun d1 e' => by rw [hdd] at e'; cases e'; exact hone
      rw [run_equalIn_array w (d + j) (flV (.pair a b) x).toArray (flV (.pair a b) y).toArray h1 hi]
      show (Op.eqItems (d + j) e (P.cellsOf e) _ _ [0, 1]).run P w = _
      have l1 := flV_len x.1 hf.1
      have l2 := flV_len y.1 hf.1
      have m1 := flV_len x.2 hf.2
      have m2 := flV_len y.2 hf.2
      have sx : (flV (.pair a b) x).toArray.size = a.sz + b.sz := by show (flV a x.1 ++ flV b x.2).length = _; rw [List.length_append, l1, m1]
      have sy : (flV (.pair a b) y).toArray.size = a.sz + b.sz := by show (flV a y.1 ++ flV b y.2).length = _; rw [List.length_append, l2, m2]
      obtain ⟨u1, hu1, ha1, hb1⟩ := run_partW (w := w) hs hd1 hdd (flV (.pair a b) x).toArray (0 * a.sz) (by omega)
      obtain ⟨u2, hu2, ha2, hb2⟩ := run_partW (w := w) hs hd1 hdd (flV (.pair a b) y).toArray (0 * a.sz) (by omega)
      obtain ⟨u3, hu3, ha3, hb3⟩ := run_partW (w := w) hs hd1 hdd (flV (.pair a b) x).toArray (1 * a.sz) (by omega)
      obtain ⟨u4, hu4, ha4, hb4⟩ := run_partW (w := w) hs hd1 hdd (flV (.pair a b) y).toArray (1 * a.sz) (by omega)
      have e1 : (((flV (.pair a b) x).toArray.toList.drop (0 * a.sz)).take a.sz) = flV a x.1 := by show ((flV a x.1 ++ flV b x.2).drop (0 * a.sz)).take a.sz = _; rw [Nat.zero_mul, List.drop_zero, ← l1, List.take_left' rfl]
      have e2 : (((flV (.pair a b) y).toArray.toList.drop (0 * a.sz)).take a.sz) = flV a y.1 := by show ((flV a y.1 ++ flV b y.2).drop (0 * a.sz)).take a.sz = _; rw [Nat.zero_mul, List.drop_zero, ← l2, List.take_left' rfl]
      have e3 : (((flV (.pair a b) x).toArray.toList.drop (1 * a.sz)).take a.sz) = flV b x.2 := by show ((flV a x.1 ++ flV b x.2).drop (1 * a.sz)).take a.sz = _; rw [Nat.one_mul, hab, ← m1, List.drop_left' (by rw [l1, hab, m1]), List.take_of_length_le (Nat.le_refl _)]
      have e4 : (((flV (.pair a b) y).toArray.toList.drop (1 * a.sz)).take a.sz) = flV b y.2 := by show ((flV a y.1 ++ flV b y.2).drop (1 * a.sz)).take a.sz = _; rw [Nat.one_mul, hab, ← m2, List.drop_left' (by rw [l2, hab, m2]), List.take_of_length_le (Nat.le_refl _)]
      rw [e1] at ha1 hb1
      rw [e2] at ha2 hb2
      rw [e3] at ha3 hb3
      rw [e4] at ha4 hb4
      have q1 := keyK_eq d j (v := u1) (u := u2) hka hf.1 (fun d2 e => by rw [hdd] at e; cases e; exact ⟨ha1, hb1⟩) (fun d2 e => by rw [hdd] at e; cases e; exact ⟨ha2, hb2⟩)
      have q2 := keyK_eq d j (v := u3) (u := u4) hkb hf.2 (fun d2 e => by rw [hdd] at e; cases e; exact ⟨ha3, hb3⟩) (fun d2 e => by rw [hdd] at e; cases e; exact ⟨ha4, hb4⟩)
      simp only [Op.eqItems, Sem.run_bind, hc, hu1, hu2, hu3, hu4, q1, q2, Result.andThen_ok]
      show _ = Result.ok (keq a x.1 y.1 && keq b x.2 y.2) w
      rw [Nat.one_mul] at hu3 hu4
      cases keq a x.1 y.1
      · simp
      · cases hb : keq b x.2 y.2 <;> simp [Op.eqItems, hu3, hu4, q2, hb]
    · rename_i fs h1
      simp only [Bool.and_eq_true, Bool.not_eq_true'] at h
      have hv := (hv _ h1).1 rfl
      have hu := (hu _ h1).1 rfl
      subst hv hu
      have hfs : P.fieldsOf t = fs := by simp [Program.fieldsOf, h1]
      rw [run_equalIn_struct (P := P) w (d + j) t _ _ (by rw [hfs]; exact h1) h.1, hfs]
      exact keyF_eq (fun a b c e => keyK_eq d j a b c e) (fun a => keyK_size a) _ _ fs.toList 0 _ h.2 hf (by simp) (by simp)
    · cases h
theorem keyK_chk (em : Bool) : ∀ (d j : Nat) {t : Nat} {τ : Ty} {x : τ.T} {v : Value}, keyK P d t τ = true → flB τ = true → Shape P t v (flV τ x) → (Instr.checkKey em (d + j) t v).run P w = .ok () w
  | 0, j, t, τ, _, _, h, _, _ => by simp [keyK] at h
  | d + 1, j, t, τ, x, v, h, hf, hv => by
    rw [show d + 1 + j = (d + j) + 1 by omega]
    unfold keyK at h
    rw [Bool.and_eq_true, beq_iff_eq] at h
    obtain ⟨h0, h⟩ := h
    split at h
    · rename_i k k' h1
      obtain rfl := of_decide_eq_true h
      have hv := (hv _ h1).2 rfl
      simp only [flV, List.cons.injEq, and_true] at hv
      subst hv
      exact run_checkKey h1 (show IsKey (.int k) (.int k x) from rfl) em (d + j)
    · rename_i h1
      have hv := (hv _ h1).2 rfl
      simp only [flV, List.cons.injEq, and_true] at hv
      subst hv
      exact run_checkKey h1 (show IsKey .bool (.bool x) from trivial) em (d + j)
    · rename_i n e a b h1
      simp only [Bool.and_eq_true, beq_iff_eq] at h
      obtain ⟨⟨rfl, hab⟩, hka, hkb⟩ := h
      simp only [flB, Bool.and_eq_true] at hf
      have hv := (hv _ h1).1 rfl
      subst hv
      obtain ⟨hs, dd, hdd, hone⟩ := keyK_size hka
      obtain ⟨i, hi, hin⟩ := Option.map_eq_some_iff.1 hs
      have hc : P.cellsOf e = a.sz := by simp [Program.cellsOf, hi, hin]
      have hd1 : ∀ d1, P.underlying e = some d1 → dAgg d1 = false → a.sz = 1 := fun d1 e' => by rw [hdd] at e'; cases e'; exact hone
      have l1 := flV_len x.1 hf.1
      have m1 := flV_len x.2 hf.2
      have sx : (flV (.pair a b) x).toArray.size = a.sz + b.sz := by show (flV a x.1 ++ flV b x.2).length = _; rw [List.length_append, l1, m1]
      obtain ⟨u1, hu1, ha1, hb1⟩ := run_partW (w := w) hs hd1 hdd (flV (.pair a b) x).toArray (0 * a.sz) (by omega)
      obtain ⟨u3, hu3, ha3, hb3⟩ := run_partW (w := w) hs hd1 hdd (flV (.pair a b) x).toArray (1 * a.sz) (by omega)
      have e1 : (((flV (.pair a b) x).toArray.toList.drop (0 * a.sz)).take a.sz) = flV a x.1 := by show ((flV a x.1 ++ flV b x.2).drop (0 * a.sz)).take a.sz = _; rw [Nat.zero_mul, List.drop_zero, ← l1, List.take_left' rfl]
      have e3 : (((flV (.pair a b) x).toArray.toList.drop (1 * a.sz)).take a.sz) = flV b x.2 := by show ((flV a x.1 ++ flV b x.2).drop (1 * a.sz)).take a.sz = _; rw [Nat.one_mul, hab, ← m1, List.drop_left' (by rw [l1, hab, m1]), List.take_of_length_le (Nat.le_refl _)]
      rw [e1] at ha1 hb1
      rw [e3] at ha3 hb3
      have q1 := keyK_chk em d j (v := u1) hka hf.1 (fun d2 e => by rw [hdd] at e; cases e; exact ⟨ha1, hb1⟩)
      have q2 := keyK_chk em d j (v := u3) hkb hf.2 (fun d2 e => by rw [hdd] at e; cases e; exact ⟨ha3, hb3⟩)
      rw [Instr.checkKey]
      simp only [Sem.run_bind, run_underlying h1 w, Result.andThen_ok]
      simp only [Std.Legacy.Range.forIn_eq_forIn_range', Std.Legacy.Range.size, Nat.sub_zero, Nat.add_one_sub_one, Nat.div_one]
      rw [show List.range' 0 2 = [0, 1] from rfl]
      simp only [List.forIn_cons, List.forIn_nil, Sem.run_bind, _root_.Go.run_sizeOf w hi, hc, hu1, hu3, q1, q2, Result.andThen_ok, Sem.run_pure]
    · rename_i fs h1
      simp only [Bool.and_eq_true, Bool.not_eq_true'] at h
      have hv := (hv _ h1).1 rfl
      subst hv
      rw [Instr.checkKey]
      simp only [Sem.run_bind, run_underlying h1 w, Result.andThen_ok]
      rw [← Array.forIn_toList]
      have key : ∀ (L : List Field) (off : Nat) (τ : Ty) (y : τ.T) (cs : Array Value), keyF (keyK P d) L off τ = true → flB τ = true → cs.toList.drop off = flV τ y → (forIn L PUnit.unit fun f r => do
          if f.name ≠ "_" then
            Instr.checkKey em (d + j) f.type (← part f.type cs f.offset)
            pure (ForInStep.yield PUnit.unit)
          else pure (ForInStep.yield PUnit.unit) : Sem PUnit).run P w = .ok () w := by
        intro L
        induction L with
        | nil => intro off τ y cs h; simp [keyF] at h
        | cons f L ih =>
          intro off τ y cs hk hf hy
          match L, τ, y, hk, hf, hy, ih with
          | [], τ, y, hk, hf, hy, ih =>
            simp only [keyF, Bool.and_eq_true, bne_iff_ne, ne_eq, beq_iff_eq] at hk
            obtain ⟨⟨hn, ho⟩, hk⟩ := hk
            obtain ⟨hs, dd, hdd, hone⟩ := keyK_size hk
            have lx : off + τ.sz ≤ cs.size := by have := congrArg List.length hy; rw [List.length_drop, flV_len y hf, Array.length_toList] at this; have := szp τ; omega
            obtain ⟨u1, hu1, ha1, hb1⟩ := run_partW (w := w) hs (fun d1 e => by rw [hdd] at e; cases e; exact hone) hdd cs off lx
            rw [hy, List.take_of_length_le (by rw [flV_len y hf]; exact Nat.le_refl _)] at ha1 hb1
            have q := keyK_chk em d j (v := u1) hk hf (fun d2 e => by rw [hdd] at e; cases e; exact ⟨ha1, hb1⟩)
            simp only [List.forIn_cons, List.forIn_nil, Sem.run_bind, hn, ne_eq, not_false_eq_true, if_true, ho, hu1, q, Result.andThen_ok, Sem.run_pure]
          | g :: r, .pair a b, y, hk, hf, hy, ih =>
            simp only [keyF, Bool.and_eq_true, bne_iff_ne, ne_eq, beq_iff_eq] at hk
            obtain ⟨⟨⟨hn, ho⟩, hk⟩, hrest⟩ := hk
            simp only [flB, Bool.and_eq_true] at hf
            obtain ⟨hs, dd, hdd, hone⟩ := keyK_size hk
            have hy' : cs.toList.drop off = flV a y.1 ++ flV b y.2 := hy
            have l1 := flV_len y.1 hf.1
            have lx : off + a.sz ≤ cs.size := by have := congrArg List.length hy'; rw [List.length_drop, List.length_append, l1, flV_len y.2 hf.2, Array.length_toList] at this; have := szp a; omega
            obtain ⟨u1, hu1, ha1, hb1⟩ := run_partW (w := w) hs (fun d1 e => by rw [hdd] at e; cases e; exact hone) hdd cs off lx
            rw [hy', ← l1, List.take_left' rfl] at ha1 hb1
            have q := keyK_chk em d j (v := u1) hk hf.1 (fun d2 e => by rw [hdd] at e; cases e; exact ⟨ha1, hb1⟩)
            have := ih (off + a.sz) b y.2 cs hrest hf.2 (by rw [← List.drop_drop, hy', ← l1, List.drop_left' rfl])
            rw [List.forIn_cons]
            simp only [Sem.run_bind, hn, ne_eq, not_false_eq_true, if_true, ho, hu1, q, Result.andThen_ok, Sem.run_pure]
            simpa using this
          | _ :: _, .int _, _, hk, _, _, _ => simp [keyF] at hk
          | _ :: _, .bool, _, hk, _, _, _ => simp [keyF] at hk
          | _ :: _, .slice _, _, hk, _, _, _ => simp [keyF] at hk
      have := key fs.toList 0 _ x (flV _ x).toArray h.2 hf (by simp)
      rw [show _ = _ from this]
      rfl
    · cases h
/-- Which entry is found. -/
def dmRes (va : Bool) (K V : Ty) (x : K.T) : Nat → List (K.T × V.T) → Option (Nat × Value)
  | _, [] => none
  | i, p :: r => if keq K x p.1 = true then some (i, mkV va (flV V p.2)) else dmRes va K V x (i + 1) r
theorem run_find_dm {kt : Nat} {K V : Ty} {va : Bool} {x : K.T} (hk : keyK P 9 kt K = true) (hf : flB K = true) (hs : ∀ y : K.T, Shape P kt (.agg (flV K y).toArray) (flV K y)) : ∀ (xs : List (K.T × V.T)) (i b : Nat), (Instr.findAsking kt (.agg (flV K x).toArray) (dmE va K V b xs) i).run P w = .ok (dmRes va K V x i xs) w
  | [], i, b => by simp [Instr.findAsking, dmE, dmRes]
  | p :: r, i, b => by
    have he : (Op.equal kt (.agg (flV K x).toArray) (.agg (flV K p.1).toArray)).run P w = .ok (keq K x p.1) w := keyK_eq 9 9991 hk hf (hs x) (hs p.1)
    have ih := run_find_dm (va := va) (x := x) hk hf hs r (i + 1) (b + 1)
    simp only [dmE, Instr.findAsking, Sem.run_bind, he, Result.andThen_ok, dmRes]
    cases keq K x p.1
    · simpa using ih
    · simp
theorem run_findKey_dm {kt : Nat} {K V : Ty} {va : Bool} {x : K.T} {dd : TypeDesc} (hd : P.underlying kt = some dd) (ha : dAgg dd = true) (hk : keyK P 9 kt K = true) (hf : flB K = true) (hs : ∀ y : K.T, Shape P kt (.agg (flV K y).toArray) (flV K y)) (xs : List (K.T × V.T)) : (Instr.findKey kt (.agg (flV K x).toArray) (dmE va K V 0 xs)).run P w = .ok (dmRes va K V x 0 xs) w := by
  unfold Instr.findKey
  simp only [Sem.run_bind, run_underlying hd w, Result.andThen_ok]
  cases xs with
  | nil => simp [Instr.findNow, dmE, dmRes]
  | cons p r =>
    have : Instr.findNow dd (.agg (flV K x).toArray) (dmE va K V 0 (p :: r)) 0 = none := by
      simp only [dmE, Instr.findNow]
      cases dd <;> simp_all [dAgg, Instr.sameNow]
    rw [this]
    exact run_find_dm (va := va) (x := x) hk hf hs (p :: r) 0 0
theorem dmRes_none {va : Bool} {K V : Ty} {x : K.T} : ∀ {xs : List (K.T × V.T)} {i : Nat}, dmHas K xs x = false → dmRes va K V x i xs = none
  | [], _, _ => rfl
  | p :: r, i, h => by
    simp only [dmHas, List.any_cons, Bool.or_eq_false_iff] at h
    rw [dmRes, h.1, if_neg Bool.false_ne_true]
    exact dmRes_none h.2
theorem dmRes_get {va : Bool} {K V : Ty} {x : K.T} {z : V.T} : ∀ {xs : List (K.T × V.T)} {i : Nat}, (dmHas K xs x = true ∧ ∃ q, dmRes va K V x i xs = some (q, mkV va (flV V (dmGet K xs x z)))) ∨ (dmHas K xs x = false ∧ dmRes va K V x i xs = none ∧ dmGet K xs x z = z)
  | [], _ => .inr ⟨rfl, rfl, rfl⟩
  | p :: r, i => by
    cases h : keq K x p.1
    · have e1 : dmHas K (p :: r) x = dmHas K r x := by simp [dmHas, h]
      have e2 : dmGet K (p :: r) x z = dmGet K r x z := by simp [dmGet, h]
      rw [e1, e2, dmRes, h, if_neg Bool.false_ne_true]
      exact dmRes_get
    · refine .inl ⟨by simp [dmHas, h], i, ?_⟩
      rw [dmRes, h, if_pos rfl]
      simp [dmGet, h]
theorem dmE_snoc {va : Bool} {K V : Ty} {x : K.T} {y : V.T} : ∀ (xs : List (K.T × V.T)) (i : Nat), dmE va K V i (xs ++ [(x, y)]) = dmE va K V i xs ++ [{ key := .agg (flV K x).toArray, val := mkV va (flV V y), born := i + xs.length }]
  | [], i => rfl
  | p :: r, i => by
    simp only [List.cons_append, dmE, dmE_snoc r (i + 1), List.length_cons]
    rw [show i + 1 + r.length = i + (r.length + 1) by omega]
theorem dmE_len {va : Bool} {K V : Ty} : ∀ (xs : List (K.T × V.T)) (i : Nat), (dmE va K V i xs).length = xs.length
  | [], _ => rfl
  | _ :: r, i => by simp only [dmE, List.length_cons, dmE_len r (i + 1)]
theorem keq_flV : ∀ {t : Ty} {x y : t.T}, keq t x y = true → flV t x = flV t y
  | .int _, x, y, h => by rw [show x = y from eq_of_beq h]
  | .bool, x, y, h => by rw [show x = y from eq_of_beq h]
  | .slice _, _, _, h => by cases h
  | .pair a b, x, y, h => by
    simp only [keq, Bool.and_eq_true] at h
    show flV a x.1 ++ flV b x.2 = flV a y.1 ++ flV b y.2
    rw [keq_flV h.1, keq_flV h.2]
theorem flV_same : ∀ {t : Ty} (x : t.T), ∀ v ∈ flV t x, Instr.sameBits 9999 v v = true
  | .int _, x, v, h => by rw [List.mem_singleton.1 h]; simp [Instr.sameBits]
  | .bool, x, v, h => by rw [List.mem_singleton.1 h]; simp [Instr.sameBits]
  | .slice _, _, _, h => by cases h
  | .pair a b, x, v, h => by
    rcases List.mem_append.1 h with h | h
    · exact flV_same x.1 v h
    · exact flV_same x.2 v h
theorem same_agg {l : List Value} (h : ∀ v ∈ l, Instr.sameBits 9999 v v = true) : Instr.sameBits 10000 (.agg l.toArray) (.agg l.toArray) = true := by
  unfold Instr.sameBits
  simp only [beq_self_eq_true, Bool.true_and, List.all_eq_true]
  intro p hp
  have : p.1 = p.2 ∧ p.1 ∈ l := by
    have hz : ∀ (m : List Value), p ∈ m.zip m → p.1 = p.2 ∧ p.1 ∈ m := by
      intro m
      induction m with
      | nil => intro h; simp at h
      | cons a m ih =>
        intro h
        rw [List.zip_cons_cons, List.mem_cons] at h
        rcases h with rfl | h
        · exact ⟨rfl, List.mem_cons_self⟩
        · exact ⟨(ih h).1, List.mem_cons_of_mem _ (ih h).2⟩
    exact hz l (by simpa using hp)
  rw [← this.1]
  exact h _ this.2
theorem dmSet_len {K V : Ty} {x : K.T} {y : V.T} : ∀ (xs : List (K.T × V.T)), (dmSet K xs x y).length = xs.length
  | [] => rfl
  | p :: r => by
    unfold dmSet
    split
    · rfl
    · rw [List.length_cons, dmSet_len r, List.length_cons]
theorem dm_mod {va : Bool} {K V : Ty} {x : K.T} {y : V.T} : ∀ {xs : List (K.T × V.T)} {i q : Nat} {v : Value}, dmRes va K V x i xs = some (q, v) → ∃ j, q = i + j ∧ ∀ b, (∃ e, (dmE va K V b xs)[j]? = some e ∧ e.key = .agg (flV K x).toArray) ∧ (dmE va K V b xs).modify j (fun e => { e with key := .agg (flV K x).toArray, val := mkV va (flV V y) }) = dmE va K V b (dmSet K xs x y)
  | [], _, _, _, h => by cases h
  | p :: r, i, q, v, h => by
    unfold dmRes at h
    cases hk : keq K x p.1
    · rw [hk, if_neg Bool.false_ne_true] at h
      obtain ⟨j, e1, e2⟩ := dm_mod (y := y) h
      refine ⟨j + 1, by omega, fun b => ?_⟩
      obtain ⟨⟨e, e3, e4⟩, e5⟩ := e2 (b + 1)
      refine ⟨⟨e, by simpa [dmE] using e3, e4⟩, ?_⟩
      unfold dmSet
      rw [hk, if_neg Bool.false_ne_true]
      simp only [dmE, List.modify_succ_cons, e5]
    · rw [hk, if_pos rfl] at h
      simp only [Option.some.injEq, Prod.mk.injEq] at h
      refine ⟨0, by omega, fun b => ⟨⟨_, rfl, by rw [keq_flV hk]⟩, ?_⟩⟩
      unfold dmSet
      rw [hk, if_pos rfl]
      simp only [dmE, List.modify_zero_cons]
theorem mkV_of {agg : Bool} {v : Value} {l : List Value} (h1 : agg = true → v = .agg l.toArray) (h2 : agg = false → l = [v]) : v = mkV agg l := by
  cases agg
  · rw [h2 rfl]; rfl
  · exact h1 rfl
theorem key_of (hck : tt.ck P = true) {kt : Nat} {ik : TI} (h : tt.at kt = some ik) (hk : ik.key = true) : ∃ K, ik.ty = some K ∧ keyK P 9 kt K = true ∧ flB K = true ∧ (∃ dd, P.underlying kt = some dd ∧ dAgg dd = true) ∧ ∀ y : K.T, Shape P kt (.agg (flV K y).toArray) (flV K y) := by
  have hT := TT.fact hck h
  have h1 := hT.ky
  unfold keyI at h1
  rw [hk] at h1
  simp only [Bool.not_true, Bool.false_or, Bool.and_eq_true] at h1
  obtain ⟨hagg, h1⟩ := h1
  obtain ⟨f, d, z, _, h2, _, _, _, _, _, _, h3, _⟩ := hT.ex
  split at h1
  · rename_i K hK
    rw [Bool.and_eq_true] at h1
    exact ⟨K, hK, h1.1, h1.2, ⟨d, h2, by rw [h3]; exact hagg⟩, fun y dd e => by
      rw [h2] at e; cases e
      exact ⟨fun _ => rfl, fun hn => by rw [h3, hagg] at hn; cases hn⟩⟩
  · cases h1
def keyT (tt : TT) (kt : Nat) (K : Ty) : Bool := match tt.at kt with
  | some ik => ik.key && (match ik.ty with | some K' => decide (K' = K) | none => false)
  | none => false
theorem keyT_ok (hck : tt.ck P = true) {kt : Nat} {K : Ty} (h : keyT tt kt K = true) : keyK P 9 kt K = true ∧ flB K = true ∧ (∃ dd, P.underlying kt = some dd ∧ dAgg dd = true) ∧ ∀ y : K.T, Shape P kt (.agg (flV K y).toArray) (flV K y) := by
  unfold keyT at h
  split at h
  · rename_i ik hik
    rw [Bool.and_eq_true] at h
    obtain ⟨K', h1, h2, h3, h4, h5⟩ := key_of hck hik h.1
    have h6 := h.2
    rw [h1] at h6
    obtain rfl := of_decide_eq_true h6
    exact ⟨h2, h3, h4, h5⟩
  · cases h
-- making
def semMakeD (tt : TT) (nt hn sb : Nat) (dst : Option Nat) (t : Nat) (r : Option Operand) : Rd := match tt.at t with
  | some i => match i.mp with
    | some (kt, et) => match tt.at kt, tt.at et with
      | some ik, some ie => cond ik.key (match ik.ty, ie.ty, r with
        | some K, some V, none => cond (flB V) (free hn sb (fin nt dst [.slot sb (.dm ie.agg K V []) []] (.cv (.one (.mp sb))))) .fail
        | _, _, _ => .fail) (semMakeMap nt hn sb dst r)
      | _, _ => semMakeMap nt hn sb dst r
    | none => semMakeMap nt hn sb dst r
  | none => semMakeMap nt hn sb dst r
theorem ok_makeD {o : Oper} {t sb : Nat} {r : Option Operand} {Q : Exit → Act → World → Prop} {ws : List Wr} (ho : o.op = .makeMap t r) (hI : Inv F0 w0 E σ a w) (h : (semMakeD tt σ.nt σ.heap.length sb o.dst t r).gives σ ws) : Good P F0 w0 E o a w (σ.aps ws) Q := by
  unfold semMakeD at h
  split at h
  · split at h
    · split at h
      · rename_i ik ie _ _
        cases hk : ik.key
        · rw [hk] at h; exact ok_makeMap ho hI h
        · rw [hk, cond_true] at h
          split at h
          · rename_i K V hK hV
            cases hf : flB V
            · rw [hf] at h; exact absurd h Rd.gives_fail
            · rw [hf, cond_true] at h
              obtain ⟨hsb, hn, h⟩ := free_gives h
              have hb : (updβ E sb w.heap.size).β sb = some w.heap.size := by simp [updβ]
              obtain ⟨h1, h2⟩ := hI.heap.newβ hsb hn (.map #[] 0) (s := .dm ie.agg K V []) (c := []) ⟨_, hb, heap_new w _⟩ (fun b hb' => by
                have hb' : (updβ E sb w.heap.size).β sb = some b := hb'
                rw [hb] at hb'; exact (Option.some.inj hb').symm)
              refine good_one' (v := .map (some w.heap.size)) ?_ (hI.evo h2 h1) h2 rfl h ⟨_, hb, rfl⟩
              simp [execOp, ho, Instr.makeMap, newObj, Sem.run]
          · exact absurd h Rd.gives_fail
      · exact ok_makeMap ho hI h
    · exact ok_makeMap ho hI h
  · exact ok_makeMap ho hI h
def cvL : CV → Bool × List AV
  | .one a => (false, [a])
  | .agg l => (true, l)
theorem cvL_ok {v : Value} {c : CV} (h : RepC E w v c) {τ : Ty} {y : τ.T} (hf : flB τ = true) (hd : dec τ (cvL c).2 = some y) : v = mkV (cvL c).1 (flV τ y) := by
  cases c with
  | one x =>
    have h1 : RepL E w [v] [x] := ⟨h, trivial⟩
    rw [← flV_of hf (RepD.dec h1 hd)]
    rfl
  | agg l =>
    obtain ⟨cs, rfl, h1⟩ := h
    have h2 := flV_of hf (RepD.dec h1 hd)
    show Value.agg cs = .agg (flV τ y).toArray
    rw [← h2]
def semInsD (tt : TT) (nt : Nat) (dst : Option Nat) (t : Nat) (m k v : Operand) : Rd := ev k fun kv => match kv with
  | .cv (.agg l) => ev1 m fun m => ev v fun vv => match tt.at t, m, vv with
    | some i, .mp s, .cv c => match i.mp with
      | some (kt, _) => .slot s fun z => match z with
        | .dm va K V xs => match dec K l, dec V (cvL c).2 with
          | some x, some y => cond (keyT tt kt K && (flB V && ((cvL c).1 == va))) (fin nt dst [.slot s (.dm va K V (dmPut K xs x y)) []] .bad) .fail
          | _, _ => .fail
        | _ => .fail
      | none => .fail
    | _, _, _ => .fail
  | _ => semInsert tt nt dst t m k v
theorem ok_insD (hck : tt.ck P = true) {o : Oper} {t : Nat} {m k v : Operand} {Q : Exit → Act → World → Prop} {ws : List Wr} (ho : o.op = .insert t m k v ∨ o.op = .mapUpdate t m k v) (hI : Inv F0 w0 E σ a w) (h : (semInsD tt σ.nt o.dst t m k v).gives σ ws) : Good P F0 w0 E o a w (σ.aps ws) Q := by
  replace h := ev_gives hI h
  obtain ⟨kv, hk, h⟩ := h
  split at h
  · rename_i l
    replace h := ev1_gives hI h
    obtain ⟨mv, hm, h⟩ := h
    replace h := ev_gives hI h
    obtain ⟨vv, hv, h⟩ := h
    split at h
    · rename_i i s c hi
      split at h
      · rename_i kt et hmp
        replace h := Rd.gives_slot.1 h
        split at h
        · rename_i va K V xs hs
          split at h
          · rename_i x y hx hy
            cases hc : (keyT tt kt K && (flB V && ((cvL c).1 == va)))
            · rw [hc] at h; exact absurd h Rd.gives_fail
            rw [hc, cond_true] at h
            simp only [Bool.and_eq_true, beq_iff_eq] at hc
            obtain ⟨hkt, hfV, hva⟩ := hc
            obtain ⟨g1, g2, ⟨dd, g3, g4⟩, g5⟩ := keyT_ok hck hkt
            have hu := (TT.fact hck hi).map0 hmp
            obtain ⟨b, hβ, em⟩ := hm
            have ek : a.eval k = .agg (flV K x).toArray := cvL_ok (c := .agg l) hk g2 hx
            have ev' : a.eval v = mkV va (flV V y) := by rw [← hva]; exact cvL_ok (c := c) hv hfV hy
            have hsl := hI.heap.slot s
            rw [hs] at hsl
            obtain ⟨b', k1, k2⟩ := hsl
            rw [hβ] at k1
            obtain rfl := Option.some.inj k1
            have hkl : s < σ.heap.length := hg_lt (by rw [hs]; simp)
            have hfind := run_findKey_dm (w := w) (va := va) (V := V) g3 g4 g1 g2 g5 (x := x) xs
            have hchk : (Instr.checkKey false 10000 kt (.agg (flV K x).toArray)).run P w = .ok () w := keyK_chk false 9 9991 g1 g2 (g5 x)
            have fin' : ∀ (es : Array MapEntry) (n : Nat), es = (dmE va K V 0 (dmPut K xs x y)).toArray → n = (dmPut K xs x y).length → (execOp a.eval o).run P w = .ok .skip { w with heap := w.heap.setIfInBounds b (.map es n) } → Good P F0 w0 E o a w (σ.aps ws) Q := by
              intro es n he hn hrun
              obtain ⟨q1, q2⟩ := heap_set (o' := .map es n) k2
              have hev : Evo E w E { w with heap := w.heap.setIfInBounds b (.map es n) } := ⟨fun _ _ e => e, fun _ _ e => e, fun _ e => e, fun q hq => q2 q (fun e => (hI.heap.own s b (by rw [hs]; exact hβ)).2.2 (e ▸ hq))⟩
              obtain ⟨i1, i2⟩ := hI.heap.write (w' := { w with heap := w.heap.setIfInBounds b (.map es n) }) hkl (g := b) (by rw [hs]; exact hβ) q2 rfl rfl rfl (by simp)
                (s := .dm va K V (dmPut K xs x y)) (c := []) ⟨b, hβ, by rw [q1, he, hn]⟩ (fun q hq => by rw [hs]; exact hq)
              exact upon_skip_fin (hw := [.slot s (.dm va K V (dmPut K xs x y)) []]) (E' := E) hrun (hI.evo i2 i1) i2 rfl h
            cases hh : dmHas K xs x
            · rw [dmRes_none hh] at hfind
              refine fin' ((dmE va K V 0 xs).toArray.push { key := .agg (flV K x).toArray, val := mkV va (flV V y), born := xs.length }) (xs.length + 1) ?_ ?_ ?_
              · unfold dmPut
                rw [hh, if_neg Bool.false_ne_true, dmE_snoc, Nat.zero_add]
                simp
              · unfold dmPut
                rw [hh, if_neg Bool.false_ne_true, List.length_append]
                rfl
              · rcases ho with ho | ho <;> simp [execOp, ho, em, ek, ev', Instr.mapUpdate, run_underlying hu w, Go.MapKept.run_getObj_map k2, hchk, hfind, run_setObj_map _ k2]
            · rcases dmRes_get (va := va) (x := x) (z := y) (xs := xs) (i := 0) with ⟨_, q, r2⟩ | ⟨r1, _⟩
              · rw [r2] at hfind
                obtain ⟨j, e1, e2⟩ := dm_mod (y := y) r2
                obtain ⟨⟨e, e3, e4⟩, e5⟩ := e2 0
                obtain rfl : q = j := by omega
                have hsb : Instr.sameBits 10000 (.agg (flV K x).toArray) (.agg (flV K x).toArray) = true := same_agg (flV_same x)
                refine fin' ((dmE va K V 0 xs).toArray.modify q fun e => { e with key := .agg (flV K x).toArray, val := mkV va (flV V y) }) xs.length ?_ ?_ ?_
                · unfold dmPut
                  rw [if_pos hh, ← e5]
                  simp
                · unfold dmPut
                  rw [if_pos hh, dmSet_len]
                · rcases ho with ho | ho <;> simp [execOp, ho, em, ek, ev', Instr.mapUpdate, run_underlying hu w, Go.MapKept.run_getObj_map k2, hchk, hfind, run_setObj_map _ k2, e3, e4, Instr.keyThatStays, hsb]
              · rw [hh] at r1; cases r1
          · exact absurd h Rd.gives_fail
        · exact absurd h Rd.gives_fail
      · exact absurd h Rd.gives_fail
    · exact absurd h Rd.gives_fail
  · exact ok_insert hck ho hI h
def cvM (agg : Bool) (l : List AV) : Option CV := match agg, l with
  | true, l => some (.agg l)
  | false, [a] => some (.one a)
  | false, _ => none
def semLookD (tt : TT) (nt : Nat) (lu : Option Nat) (dst : Option Nat) (t : Nat) (m k : Operand) (ok : Bool) : Rd := ev k fun kv => match kv with
  | .cv (.agg l) => ev1 m fun m => match tt.at t, m, ok with
    | some i, .mp s, true => match i.mp with
      | some (kt, et) => .slot s fun z => match z with
        | .dm va K V xs => match dec K l, tt.at et with
          | some x, some ie => match dec V ie.zero with
            | some z0 => match cvM va (enc V (dmGet K xs x z0)) with
              | some c => cond (keyT tt kt K && (flB V && (ie.agg == va))) (fin nt dst [] (.tup [c, .one (.bool (dmHas K xs x))])) .fail
              | none => .fail
            | none => .fail
          | _, _ => .fail
        | _ => .fail
      | none => .fail
    | _, _, _ => .fail
  | _ => semLookup tt nt lu dst t m k ok
theorem enc_flV {τ : Ty} : ∀ (y : τ.T), flB τ = true → RepL E w (flV τ y) (enc τ y) := by
  induction τ with
  | int k => exact fun y _ => ⟨rfl, trivial⟩
  | bool => exact fun y _ => ⟨rfl, trivial⟩
  | slice e => exact fun y h => by cases h
  | pair a b iha ihb =>
    intro y h
    simp only [flB, Bool.and_eq_true] at h
    exact All2.app (iha y.1 h.1) (ihb y.2 h.2)
theorem cvM_ok {agg : Bool} {τ : Ty} {y : τ.T} {c : CV} (hf : flB τ = true) (h : cvM agg (enc τ y) = some c) : RepC E w (mkV agg (flV τ y)) c := by
  have hr := enc_flV (E := E) (w := w) y hf
  unfold cvM at h
  split at h
  · obtain rfl := Option.some.inj h
    exact ⟨_, rfl, by simpa using hr⟩
  · rename_i x hx
    obtain rfl := Option.some.inj h
    rw [hx] at hr
    match hq : flV τ y, hr with
    | [v], hr => exact hr.1
  · cases h
theorem ok_lookD (hck : tt.ck P = true) {o : Oper} {t : Nat} {lu : Option Nat} {m k : Operand} {ok : Bool} {Q : Exit → Act → World → Prop} {ws : List Wr} (ho : o.op = .lookup t m k ok) (hI : Inv F0 w0 E σ a w) (h : (semLookD tt σ.nt lu o.dst t m k ok).gives σ ws) : Good P F0 w0 E o a w (σ.aps ws) Q := by
  replace h := ev_gives hI h
  obtain ⟨kv, hk, h⟩ := h
  split at h
  · rename_i l
    replace h := ev1_gives hI h
    obtain ⟨mv, hm, h⟩ := h
    split at h
    · rename_i i s hi
      split at h
      · rename_i kt et hmp
        replace h := Rd.gives_slot.1 h
        split at h
        · rename_i va K V xs hs
          split at h
          · rename_i x ie hx hie
            split at h
            · rename_i z0 hz0
              split at h
              · rename_i c hc'
                cases hc : (keyT tt kt K && (flB V && (ie.agg == va)))
                · rw [hc] at h; exact absurd h Rd.gives_fail
                rw [hc, cond_true] at h
                simp only [Bool.and_eq_true, beq_iff_eq] at hc
                obtain ⟨hkt, hfV, hva⟩ := hc
                obtain ⟨g1, g2, ⟨dd, g3, g4⟩, g5⟩ := keyT_ok hck hkt
                have hu := (TT.fact hck hi).map0 hmp
                obtain ⟨b, hβ, em⟩ := hm
                have ek : a.eval k = .agg (flV K x).toArray := cvL_ok (c := .agg l) hk g2 hx
                have hsl := hI.heap.slot s
                rw [hs] at hsl
                obtain ⟨b', k1, k2⟩ := hsl
                rw [hβ] at k1
                obtain rfl := Option.some.inj k1
                have hfind := run_findKey_dm (w := w) (va := va) (V := V) g3 g4 g1 g2 g5 (x := x) xs
                have hchk : ∀ em, (Instr.checkKey em 10000 kt (.agg (flV K x).toArray)).run P w = .ok () w := fun em => keyK_chk em 9 9991 g1 g2 (g5 x)
                obtain ⟨zv, z1, z2, z3, z4⟩ := run_zero (TT.fact hck hie) w
                have z5 := flV_of hfV (RepD.dec (zall_ok E w z4) hz0)
                have z6 : zv = mkV va (flV V z0) := by
                  rw [← hva]
                  refine mkV_of (fun ha => ?_) (fun ha => ?_)
                  · obtain ⟨cs, rfl⟩ := z2 ha
                    rw [← z5]
                    simp [Value.cells]
                  · rw [← z5, z3 ha]
                rcases dmRes_get (va := va) (x := x) (z := z0) (xs := xs) (i := 0) with ⟨r1, q, r2⟩ | ⟨r1, r2, r3⟩
                · rw [r2] at hfind
                  refine good_fin (hw := []) (v := .tuple #[mkV va (flV V (dmGet K xs x z0)), .bool true]) (E' := E) (tv := .tup [c, .one (.bool (dmHas K xs x))]) ?_ hI (Evo.refl E w) ⟨_, rfl, cvM_ok hfV hc', by rw [r1]; rfl, trivial⟩ rfl h
                  simp [execOp, ho, em, ek, Instr.lookup, run_underlying hu w, Go.MapKept.run_getObj_map k2, hchk, hfind]
                · rw [r2] at hfind
                  refine good_fin (hw := []) (v := .tuple #[mkV va (flV V (dmGet K xs x z0)), .bool false]) (E' := E) (tv := .tup [c, .one (.bool (dmHas K xs x))]) ?_ hI (Evo.refl E w) ⟨_, rfl, cvM_ok hfV hc', by rw [r1]; rfl, trivial⟩ rfl h
                  rw [r3, ← z6]
                  simp [execOp, ho, em, ek, Instr.lookup, run_underlying hu w, Go.MapKept.run_getObj_map k2, hchk, hfind, z1]
              · exact absurd h Rd.gives_fail
            · exact absurd h Rd.gives_fail
          · exact absurd h Rd.gives_fail
        · exact absurd h Rd.gives_fail
      · exact absurd h Rd.gives_fail
    · exact absurd h Rd.gives_fail
  · exact ok_lookup hck ho hI h
def semLenD (tt : TT) (nt : Nat) (dst : Option Nat) (t : Nat) (x : Operand) : Rd := ev1 x fun v => match v, tt.at t with
  | .mp s, some i => match i.mp with
    | some _ => .slot s fun z => match z with
      | .dm va K V xs => fin nt dst [] (.cv (.one (.int .i64 (xs.length : Int))))
      | _ => .fail
    | none => .fail
  | _, _ => semLen tt nt dst t x
theorem ok_lenD (hck : tt.ck P = true) {o : Oper} {t : Nat} {x : Operand} {Q : Exit → Act → World → Prop} {ws : List Wr} (ho : o.op = .call { callee := .builtin .len, args := #[x], argTypes := #[t] }) (hI : Inv F0 w0 E σ a w) (h : (semLenD tt σ.nt o.dst t x).gives σ ws) : Good P F0 w0 E o a w (σ.aps ws) Q := by
  replace h := ev1_gives hI h
  obtain ⟨v, hv, h⟩ := h
  split at h
  · rename_i s i hi
    split at h
    · rename_i ke hmp
      obtain ⟨kt, et⟩ := ke
      replace h := Rd.gives_slot.1 h
      split at h
      · rename_i va K V xs hs
        have hu := (TT.fact hck hi).map0 hmp
        obtain ⟨b, hβ, em⟩ := hv
        have hsl := hI.heap.slot s
        rw [hs] at hsl
        obtain ⟨b', k1, k2⟩ := hsl
        rw [hβ] at k1
        obtain rfl := Option.some.inj k1
        refine good_one' (hw := []) (v := .int .i64 (xs.length : Int)) ?_ hI (Evo.refl E w) rfl h rfl
        simp [execOp, ho, resolve, invoke, builtin, Builtin.len_, run_underlying hu w, em, Go.MapKept.run_getObj_map k2, goInt, dmE_len]
      · exact absurd h Rd.gives_fail
    · exact absurd h Rd.gives_fail
  · exact ok_len hck ho hI h
end
end Go.Proofs.Ytajddhechcneoaa.V
