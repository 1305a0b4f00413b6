/- Values without memory: what a cell, a slice, a box holds, as plain data; how it stands to the world. -/
import Derived.Orders
import Derived.Laws.OwnMore
import Derived.Below
import Derived.KernelRfl
namespace Go.Proofs.YtkhjemahenkdiaaGreatDoor.V
set_option linter.unusedVariables false
open Go Go.RowKit
inductive Ty where
  | int (k : IntKind)
  | bool
  | slice (e : Ty)
  | pair (a b : Ty)
deriving DecidableEq
@[reducible] def Ty.T : Ty → Type
  | .int _ => Int
  | .bool => Bool
  | .slice e => List e.T
  | .pair a b => a.T × b.T
def Ty.sz : Ty → Nat
  | .pair a b => a.sz + b.sz
  | .int _ => 1
  | .bool => 1
  | .slice _ => 1
def Ty.dflt : (t : Ty) → t.T
  | .int _ => (0 : Int)
  | .bool => false
  | .slice _ => []
  | .pair a b => (a.dflt, b.dflt)
theorem Ty.sz_pos : ∀ t : Ty, 0 < t.sz
  | .int _ => Nat.one_pos
  | .bool => Nat.one_pos
  | .slice _ => Nat.one_pos
  | .pair a b => Nat.lt_of_lt_of_le a.sz_pos (Nat.le_add_right _ _)
def att (e : Ty) (xs : List e.T) (i : Int) : e.T := (xs[i.toNat]?).getD e.dflt
inductive Cap where
  | any
  | full
  | nil
  | nn
  | nl
deriving DecidableEq
inductive AV where
  | bad
  | int (k : IntKind) (n : Int)
  | bool (b : Bool)
  | nils
  | sl (e : Ty) (xs : List e.T) (c : Cap)
  | own (k : Nat)
  | ptr (k off : Nat)
  | eptr (k : Nat) (e : Ty) (i : Int) (off : Nat)
  | rptr (e : Ty) (x : e.T) (off : Nat)
  | fn (f : Nat) (first caps : List (Nat × Nat))
  | nilf
  | nilp
  | mp (k : Nat)
  | oview (k : Nat) (e : Ty) (lo : Int)
  | lsl (a : Ty) (x : a.T) (B : Nat)
  | gptr (g : Nat)
  | bsl (k n : Nat)
  | str (xs : List Int)
inductive CV where
  | one (a : AV)
  | agg (l : List AV)
inductive TV where
  | bad
  | cv (c : CV)
  | tup (l : List CV)
inductive Sl where
  | none
  | dead
  | box (n : Nat)
  | buf (et : Nat) (e : Ty) (xs : List e.T)
  | frz (e : Ty) (xs : List e.T)
  | map (es : List (Int × AV))
  | lnk (et : Nat) (a b : Ty) (xs : List (a.T × List b.T)) (B i : Nat)
  | dm (va : Bool) (K V : Ty) (xs : List (K.T × V.T))
abbrev Heap := List (Sl × List AV)
structure St where
  nt : Nat
  tmps : List (Nat × TV)
  heap : Heap
/-- What stands for what: the blocks of boxes, the values of slices of one's own, the blocks that are not written any more. -/
structure En where
  β : Nat → Option Nat
  γ : Nat → Option Value
  F : Nat → Prop
/-- Things laid one behind the other. -/
def El {α : Type} (R : α → List Value → Prop) : List α → List Value → Prop
  | [], vs => vs = []
  | x :: xs, vs => ∃ c r, vs = c ++ r ∧ R x c ∧ El R xs r
theorem El.imp {α : Type} {R S : α → List Value → Prop} (f : ∀ x c, R x c → S x c) : ∀ {xs : List α} {vs : List Value}, El R xs vs → El S xs vs
  | [], _, h => h
  | _ :: _, _, ⟨c, r, e, h, k⟩ => ⟨c, r, e, f _ _ h, k.imp f⟩
theorem El.app {α : Type} {R : α → List Value → Prop} : ∀ {xs ys : List α} {vs us : List Value}, El R xs vs → El R ys us → El R (xs ++ ys) (vs ++ us)
  | [], _, _, _, h, k => by rw [show _ = _ from h]; exact k
  | _ :: _, _, _, _, ⟨c, r, e, h, h'⟩, k => ⟨c, r ++ _, by rw [e, List.append_assoc], h, h'.app k⟩
theorem El.len {α : Type} {R : α → List Value → Prop} {s : Nat} (hs : ∀ x c, R x c → c.length = s) : ∀ {xs : List α} {vs : List Value}, El R xs vs → vs.length = xs.length * s
  | [], _, h => by rw [show _ = _ from h]; simp
  | x :: xs, _, ⟨c, r, e, h, k⟩ => by rw [e, List.length_append, hs _ _ h, k.len hs, List.length_cons, Nat.succ_mul, Nat.add_comm]
theorem El.get {α : Type} {R : α → List Value → Prop} {s : Nat} (hs : ∀ x c, R x c → c.length = s) : ∀ {xs : List α} {vs : List Value} {i : Nat} {x : α}, El R xs vs → xs[i]? = some x → ∃ c, R x c ∧ ∀ j u, c[j]? = some u → vs[i * s + j]? = some u
  | [], _, _, _, _, h => by simp at h
  | y :: xs, _, 0, x, ⟨c, r, e, h, k⟩, hx => by
    simp at hx
    subst hx
    refine ⟨c, h, fun j u hu => ?_⟩
    rw [e, Nat.zero_mul, Nat.zero_add, List.getElem?_append_left (List.getElem?_eq_some_iff.1 hu).1]
    exact hu
  | y :: xs, _, i + 1, x, ⟨c, r, e, h, k⟩, hx => by
    obtain ⟨d, hd, hj⟩ := k.get hs (by simpa using hx)
    refine ⟨d, hd, fun j u hu => ?_⟩
    have hc := hs _ _ h
    rw [e, List.getElem?_append_right (by rw [hc, Nat.succ_mul]; omega), hc]
    have : (i + 1) * s + j - s = i * s + j := by rw [Nat.succ_mul]; omega
    rw [this]
    exact hj j u hu
theorem El.take {α : Type} {R : α → List Value → Prop} {s : Nat} (hs : ∀ x c, R x c → c.length = s) : ∀ {xs : List α} {vs : List Value} (n : Nat), El R xs vs → El R (xs.take n) (vs.take (n * s))
  | _, _, 0, _ => by simp [El]
  | [], _, n + 1, h => by rw [show _ = _ from h]; simp [El]
  | x :: xs, _, n + 1, ⟨c, r, e, h, k⟩ => by
    have hc := hs _ _ h
    refine ⟨c, r.take (n * s), ?_, h, k.take hs n⟩
    rw [e, List.take_append, hc, List.take_of_length_le (by rw [hc, Nat.succ_mul]; omega)]
    congr 2
    rw [Nat.succ_mul]; omega
theorem El.drop {α : Type} {R : α → List Value → Prop} {s : Nat} (hs : ∀ x c, R x c → c.length = s) : ∀ {xs : List α} {vs : List Value} (n : Nat), El R xs vs → El R (xs.drop n) (vs.drop (n * s))
  | _, _, 0, h => by simpa using h
  | [], _, n + 1, h => by rw [show _ = _ from h]; simp [El]
  | x :: xs, _, n + 1, ⟨c, r, e, h, k⟩ => by
    have hc := hs _ _ h
    rw [List.drop_succ_cons, e, List.drop_append, hc, List.drop_of_length_le (l := c) (by rw [hc, Nat.succ_mul]; omega), List.nil_append]
    have : (n + 1) * s - s = n * s := by rw [Nat.succ_mul]; omega
    rw [this]
    exact k.drop hs n
theorem El.set {α : Type} {R : α → List Value → Prop} {s : Nat} (hs : ∀ x c, R x c → c.length = s) {y : α} {d : List Value} (hy : R y d) : ∀ {xs : List α} {vs : List Value} (i : Nat), i < xs.length → El R xs vs → El R (xs.set i y) (vs.take (i * s) ++ d ++ vs.drop (i * s + s))
  | [], _, _, hi, _ => by simp at hi
  | x :: xs, _, 0, _, ⟨c, r, e, h, k⟩ => by
    have hc := hs _ _ h
    refine ⟨d, r, ?_, hy, k⟩
    rw [e, Nat.zero_mul, Nat.zero_add, List.take_zero, List.nil_append, List.drop_append, hc, List.drop_of_length_le (by omega), Nat.sub_self]
    rfl
  | x :: xs, _, i + 1, hi, ⟨c, r, e, h, k⟩ => by
    have hc := hs _ _ h
    refine ⟨c, _, ?_, h, k.set hs hy i (by simpa using hi)⟩
    have h1 : (i + 1) * s = i * s + s := Nat.succ_mul i s
    rw [e, List.take_append, hc, List.take_of_length_le (by rw [hc, h1]; omega), List.drop_append, hc, List.drop_of_length_le (by rw [hc, h1]; omega), List.nil_append, h1]
    have h2 : i * s + s - s = i * s := by omega
    have h3 : i * s + s + s - s = i * s + s := by omega
    rw [h2, h3, List.append_assoc, List.append_assoc, List.append_assoc]
/-- The cells vs hold x of type t; what they lead to lies in blocks of F. -/
def RepD (F : Nat → Prop) (w : World) : (t : Ty) → t.T → List Value → Prop
  | .int k, n, vs => vs = [.int k n]
  | .bool, b, vs => vs = [.bool b]
  | .slice e, xs, vs => ∃ A c inner, vs = [.slice A xs.length c] ∧ xs.length ≤ c ∧ El (RepD F w e) xs inner ∧
      ∀ j u, inner[j]? = some u → ∃ b o, A = some ⟨b, o, none⟩ ∧ F b ∧ w.cell? ⟨b, o + j, none⟩ = some u
  | .pair a b, x, vs => ∃ v1 v2, vs = v1 ++ v2 ∧ RepD F w a x.1 v1 ∧ RepD F w b x.2 v2
theorem RepD.len {F : Nat → Prop} {w : World} : ∀ {t : Ty} {x : t.T} {vs : List Value}, RepD F w t x vs → vs.length = t.sz
  | .int _, _, _, h => by rw [show _ = _ from h]; rfl
  | .bool, _, _, h => by rw [show _ = _ from h]; rfl
  | .slice _, _, _, h => by obtain ⟨A, c, i, rfl, _⟩ := h; rfl
  | .pair a b, _, _, h => by
    obtain ⟨v1, v2, rfl, h1, h2⟩ := h
    rw [List.length_append, h1.len, h2.len]
    rfl
theorem RepD.one {F : Nat → Prop} {w : World} : ∀ {t : Ty} {x : t.T} {vs : List Value}, RepD F w t x vs → ∀ v ∈ vs, v.oneCell' = true
  | .int _, _, _, h, v, hv => by rw [show _ = _ from h] at hv; rw [List.mem_singleton.1 hv]; rfl
  | .bool, _, _, h, v, hv => by rw [show _ = _ from h] at hv; rw [List.mem_singleton.1 hv]; rfl
  | .slice _, _, _, h, v, hv => by obtain ⟨A, c, i, rfl, _⟩ := h; rw [List.mem_singleton.1 hv]; rfl
  | .pair a b, _, _, h, v, hv => by
    obtain ⟨v1, v2, rfl, h1, h2⟩ := h
    rcases List.mem_append.1 hv with h | h
    · exact h1.one v h
    · exact h2.one v h
theorem El.one {F : Nat → Prop} {w : World} {e : Ty} : ∀ {xs : List e.T} {vs : List Value}, El (RepD F w e) xs vs → ∀ v ∈ vs, v.oneCell' = true
  | [], _, h, v, hv => by rw [show _ = _ from h] at hv; simp at hv
  | _ :: _, _, ⟨c, r, e, h, k⟩, v, hv => by
    rw [e] at hv
    rcases List.mem_append.1 hv with h' | h'
    · exact h.one v h'
    · exact El.one k v h'
theorem RepD.step {F F' : Nat → Prop} {w w' : World} (hF : ∀ b, F b → F' b) (hw : ∀ b, F b → w'.heap[b]? = w.heap[b]?) : ∀ {t : Ty} {x : t.T} {vs : List Value}, RepD F w t x vs → RepD F' w' t x vs
  | .int _, _, _, h => h
  | .bool, _, _, h => h
  | .slice e, xs, _, h => by
    obtain ⟨A, c, inner, rfl, hc, hi, h⟩ := h
    refine ⟨A, c, inner, rfl, hc, hi.imp (fun _ _ => RepD.step hF hw), fun j u hu => ?_⟩
    obtain ⟨b, o, hA, h1, h2⟩ := h j u hu
    exact ⟨b, o, hA, hF b h1, (World.cell?_of_block (w := w) (hw b h1)).trans h2⟩
  | .pair a b, _, _, h => by
    obtain ⟨v1, v2, rfl, h1, h2⟩ := h
    exact ⟨v1, v2, rfl, RepD.step hF hw h1, RepD.step hF hw h2⟩
def CapOk : Cap → Value → Prop
  | .any, _ => True
  | .full, .slice _ n c => c = n
  | .nil, v => v = .slice none 0 0
  | .nn, v => ∃ A n c, v = .slice (some A) n c
  | .nl, v => ∃ n c, v = .slice none n c
  | _, _ => False
def PtrOk (E : En) (v : Value) (p : Nat × Nat) : Prop := ∃ b, E.β p.1 = some b ∧ v = .pointer (some ⟨b, p.2, none⟩)
/-- Two lists of one length, each thing of one standing to that of the other. -/
def All2 {α β : Type} (R : α → β → Prop) : List α → List β → Prop
  | [], [] => True
  | a :: l, b :: m => R a b ∧ All2 R l m
  | _, _ => False
theorem All2.len {α β : Type} {R : α → β → Prop} : ∀ {l : List α} {m : List β}, All2 R l m → l.length = m.length
  | [], [], _ => rfl
  | _ :: _, _ :: _, h => congrArg (· + 1) h.2.len
theorem All2.imp {α β : Type} {R S : α → β → Prop} (f : ∀ a b, R a b → S a b) : ∀ {l : List α} {m : List β}, All2 R l m → All2 S l m
  | [], [], _ => trivial
  | _ :: _, _ :: _, h => ⟨f _ _ h.1, h.2.imp f⟩
theorem All2.app {α β : Type} {R : α → β → Prop} : ∀ {l : List α} {m : List β} {l' : List α} {m' : List β}, All2 R l m → All2 R l' m' → All2 R (l ++ l') (m ++ m')
  | [], [], _, _, _, h => h
  | _ :: _, _ :: _, _, _, h, h' => ⟨h.1, h.2.app h'⟩
theorem All2.take {α β : Type} {R : α → β → Prop} : ∀ (n : Nat) {l : List α} {m : List β}, All2 R l m → All2 R (l.take n) (m.take n)
  | 0, _, _, _ => by simp [All2]
  | _ + 1, [], [], _ => trivial
  | n + 1, _ :: _, _ :: _, h => ⟨h.1, h.2.take n⟩
theorem All2.drop {α β : Type} {R : α → β → Prop} : ∀ (n : Nat) {l : List α} {m : List β}, All2 R l m → All2 R (l.drop n) (m.drop n)
  | 0, _, _, h => h
  | _ + 1, [], [], _ => trivial
  | n + 1, _ :: _, _ :: _, h => h.2.drop n
theorem All2.get {α β : Type} {R : α → β → Prop} : ∀ {l : List α} {m : List β} {i : Nat} {b : β}, All2 R l m → m[i]? = some b → ∃ a, l[i]? = some a ∧ R a b
  | [], [], _, _, _, h => by simp at h
  | a :: _, b :: _, 0, _, h, e => by simp at e; subst e; exact ⟨a, rfl, h.1⟩
  | _ :: _, _ :: _, i + 1, _, h, e => h.2.get (by simpa using e)
theorem All2.set {α β : Type} {R : α → β → Prop} {a : α} {b : β} (hab : R a b) : ∀ {l : List α} {m : List β} (i : Nat), All2 R l m → All2 R (l.set i a) (m.set i b)
  | [], [], _, _ => trivial
  | _ :: _, _ :: _, 0, h => ⟨hab, h.2⟩
  | _ :: _, _ :: _, i + 1, h => ⟨h.1, h.2.set hab i⟩
/-- The string of these bytes. -/
def strOf (ns : List Int) : ByteArray := ns.foldl (fun r n => r.push (UInt8.ofNat n.toNat)) ByteArray.empty
def RepA (E : En) (w : World) (v : Value) : AV → Prop
  | .bad => v.oneCell' = true
  | .int k n => v = .int k n
  | .bool b => v = .bool b
  | .nils => v = .slice none 0 0
  | .sl e xs c => RepD E.F w (.slice e) xs [v] ∧ CapOk c v
  | .own k => E.γ k = some v ∧ ∃ A n c, v = .slice A n c
  | .ptr k off => PtrOk E v (k, off)
  | .eptr k e i off => ∃ g o n c, E.γ k = some (.slice (some ⟨g, o, none⟩) n c) ∧ 0 ≤ i ∧ i < n ∧ v = .pointer (some ⟨g, o + i.toNat * e.sz + off, none⟩)
  | .rptr e x off => ∃ b o cs, v = .pointer (some ⟨b, o + off, none⟩) ∧ RepD E.F w e x cs ∧ ∀ j u, cs[j]? = some u → E.F b ∧ w.cell? ⟨b, o + j, none⟩ = some u
  | .fn f fs cs => ∃ a c, v = .func (.func f) a c ∧ All2 (PtrOk E) a.toList fs ∧ All2 (PtrOk E) c.toList cs
  | .nilf => v = .nilFunc
  | .nilp => v = .pointer none
  | .gptr g => v = .pointer (some ⟨g, 0, none⟩)
  | .bsl k n => ∃ b, E.β k = some b ∧ v = .slice (some ⟨b, 0, none⟩) n n
  | .mp k => ∃ b, E.β k = some b ∧ v = .map (some b)
  | .str xs => v = .string (strOf xs)
  | .oview k e lo => ∃ A n c, E.γ k = some (.slice A n c) ∧ 0 ≤ lo ∧ lo ≤ n ∧ v = .slice (if c = lo.toNat then A else A.map (·.add (lo.toNat * e.sz))) (n - lo.toNat) (c - lo.toNat)
  | .lsl a x B => ∃ k c1 vB, E.γ B = some vB ∧ (∃ A n c, vB = .slice A n c) ∧ v = .slice (some ⟨k, 0, none⟩) 1 1 ∧ RepD E.F w a x c1 ∧ ∀ q u, (c1 ++ [vB])[q]? = some u → E.F k ∧ w.cell? ⟨k, q, none⟩ = some u
theorem RepA.one {E : En} {w : World} {v : Value} {a : AV} (h : RepA E w v a) : v.oneCell' = true := by
  cases a <;> simp only [RepA] at h
  case bad => exact h
  case sl e xs c => exact h.1.one v (List.mem_singleton.2 rfl)
  case own => obtain ⟨_, A, n, c, rfl⟩ := h; rfl
  case ptr => obtain ⟨b, _, rfl⟩ := h; rfl
  case eptr => obtain ⟨g, o, n, c, _, _, _, rfl⟩ := h; rfl
  case rptr => obtain ⟨b, o, cs, rfl, _⟩ := h; rfl
  case fn => obtain ⟨a, c, rfl, _⟩ := h; rfl
  case mp => obtain ⟨b, _, rfl⟩ := h; rfl
  case bsl => obtain ⟨b, _, rfl⟩ := h; rfl
  case oview => obtain ⟨A, n, c, _, _, _, rfl⟩ := h; rfl
  case lsl => obtain ⟨k, c1, vB, _, _, rfl, _⟩ := h; rfl
  all_goals subst h; rfl
/-- One world behind another: what is known of the first is known of the second. -/
structure Evo (E : En) (w : World) (E' : En) (w' : World) : Prop where
  β : ∀ k b, E.β k = some b → E'.β k = some b
  γ : ∀ k v, E.γ k = some v → E'.γ k = some v
  F : ∀ b, E.F b → E'.F b
  heap : ∀ b, E.F b → w'.heap[b]? = w.heap[b]?
theorem Evo.refl (E : En) (w : World) : Evo E w E w := ⟨fun _ _ h => h, fun _ _ h => h, fun _ h => h, fun _ _ => rfl⟩
theorem Evo.trans {E1 E2 E3 : En} {w1 w2 w3 : World} (h : Evo E1 w1 E2 w2) (k : Evo E2 w2 E3 w3) : Evo E1 w1 E3 w3 :=
  ⟨fun a b e => k.β a b (h.β a b e), fun a b e => k.γ a b (h.γ a b e), fun b e => k.F b (h.F b e), fun b e => (k.heap b (h.F b e)).trans (h.heap b e)⟩
theorem PtrOk.evo {E E' : En} {w w' : World} (h : Evo E w E' w') {v : Value} {p : Nat × Nat} (r : PtrOk E v p) : PtrOk E' v p := by
  obtain ⟨b, hb, e⟩ := r
  exact ⟨b, h.β _ _ hb, e⟩
theorem RepD.evo {E E' : En} {w w' : World} (h : Evo E w E' w') {t : Ty} {x : t.T} {vs : List Value} (r : RepD E.F w t x vs) : RepD E'.F w' t x vs := r.step h.F h.heap
theorem RepA.evo {E E' : En} {w w' : World} (h : Evo E w E' w') {v : Value} {a : AV} (r : RepA E w v a) : RepA E' w' v a := by
  cases a <;> simp only [RepA] at r ⊢
  case sl e xs c => exact ⟨r.1.evo h, r.2⟩
  case own => exact ⟨h.γ _ _ r.1, r.2⟩
  case ptr => exact r.evo h
  case eptr => obtain ⟨g, o, n, c, h1, h2⟩ := r; exact ⟨g, o, n, c, h.γ _ _ h1, h2⟩
  case rptr =>
    obtain ⟨b, o, cs, e, h1, h2⟩ := r
    refine ⟨b, o, cs, e, h1.evo h, fun j u hu => ?_⟩
    obtain ⟨h3, h4⟩ := h2 j u hu
    exact ⟨h.F b h3, (World.cell?_of_block (w := w) (h.heap b h3)).trans h4⟩
  case fn => obtain ⟨a, c, e, h1, h2⟩ := r; exact ⟨a, c, e, h1.imp (fun _ _ => PtrOk.evo h), h2.imp (fun _ _ => PtrOk.evo h)⟩
  case mp => obtain ⟨b, hb, e⟩ := r; exact ⟨b, h.β _ _ hb, e⟩
  case bsl => obtain ⟨b, hb, e⟩ := r; exact ⟨b, h.β _ _ hb, e⟩
  case oview => obtain ⟨A, n, c, hb, e⟩ := r; exact ⟨A, n, c, h.γ _ _ hb, e⟩
  case lsl =>
    obtain ⟨k, c1, vB, h1, h2, h3, h4, h5⟩ := r
    refine ⟨k, c1, vB, h.γ _ _ h1, h2, h3, h4.evo h, fun q u hu => ?_⟩
    obtain ⟨h6, h7⟩ := h5 q u hu
    exact ⟨h.F k h6, (World.cell?_of_block (w := w) (h.heap k h6)).trans h7⟩
  all_goals exact r
abbrev RepL (E : En) (w : World) : List Value → List AV → Prop := All2 (RepA E w)
def RepC (E : En) (w : World) (v : Value) : CV → Prop
  | .one a => RepA E w v a
  | .agg l => ∃ cs, v = .agg cs ∧ RepL E w cs.toList l
def RepT (E : En) (w : World) (v : Value) : TV → Prop
  | .bad => True
  | .cv c => RepC E w v c
  | .tup l => ∃ vs, v = .tuple vs ∧ All2 (RepC E w) vs.toList l
theorem RepL.evo {E E' : En} {w w' : World} (h : Evo E w E' w') {vs : List Value} {l : List AV} (r : RepL E w vs l) : RepL E' w' vs l := r.imp (fun _ _ => RepA.evo h)
theorem RepC.evo {E E' : En} {w w' : World} (h : Evo E w E' w') {v : Value} {c : CV} (r : RepC E w v c) : RepC E' w' v c := by
  cases c with
  | one a => exact RepA.evo h r
  | agg l => obtain ⟨cs, e, hl⟩ := r; exact ⟨cs, e, RepL.evo h hl⟩
theorem RepT.evo {E E' : En} {w w' : World} (h : Evo E w E' w') {v : Value} {c : TV} (r : RepT E w v c) : RepT E' w' v c := by
  cases c with
  | bad => trivial
  | cv c => exact RepC.evo h r
  | tup l => obtain ⟨vs, e, hl⟩ := r; exact ⟨vs, e, hl.imp (fun _ _ => RepC.evo h)⟩
/-- The cells of a thing of type t. -/
def enc : (t : Ty) → t.T → List AV
  | .int k, n => [.int k n]
  | .bool, b => [.bool b]
  | .slice e, xs => [.sl e xs .any]
  | .pair a b, x => enc a x.1 ++ enc b x.2
def decI (k : IntKind) : List AV → Option Int
  | [.int k' n] => if k' = k then some n else none
  | _ => none
def decB : List AV → Option Bool
  | [.bool b] => some b
  | _ => none
def decS (e : Ty) : List AV → Option (List e.T)
  | [.sl e' xs _] => if h : e' = e then some (h ▸ xs) else none
  | [.nils] => some []
  | _ => none
def dec : (t : Ty) → List AV → Option t.T
  | .int k, l => decI k l
  | .bool, l => decB l
  | .slice e, l => decS e l
  | .pair a b, l => match dec a (l.take a.sz), dec b (l.drop a.sz) with
    | some x, some y => some (x, y)
    | _, _ => none
theorem enc_len : ∀ (t : Ty) (x : t.T), (enc t x).length = t.sz
  | .int _, _ => rfl
  | .bool, _ => rfl
  | .slice _, _ => rfl
  | .pair a b, x => by rw [enc, List.length_append, enc_len a, enc_len b]; rfl
theorem RepD.enc {E : En} {w : World} : ∀ {t : Ty} {x : t.T} {vs : List Value}, RepD E.F w t x vs → RepL E w vs (enc t x)
  | .int _, _, _, h => by rw [show _ = _ from h]; exact ⟨rfl, trivial⟩
  | .bool, _, _, h => by rw [show _ = _ from h]; exact ⟨rfl, trivial⟩
  | .slice e, xs, vs, h => by
    have h' := h
    obtain ⟨A, c, i, rfl, _⟩ := h'
    exact ⟨⟨h, trivial⟩, trivial⟩
  | .pair a b, _, _, h => by
    obtain ⟨v1, v2, rfl, h1, h2⟩ := h
    exact h1.enc.app h2.enc
theorem RepL.single {E : En} {w : World} {vs : List Value} {a : AV} (h : RepL E w vs [a]) : ∃ v, vs = [v] ∧ RepA E w v a := by
  match vs, h with
  | [v], h => exact ⟨v, rfl, h.1⟩
theorem RepD.dec {E : En} {w : World} : ∀ {t : Ty} {l : List AV} {x : t.T} {vs : List Value}, RepL E w vs l → dec t l = some x → RepD E.F w t x vs
  | .int k, l, x, vs, h, e => by
    simp only [V.dec] at e
    unfold decI at e
    split at e
    · rename_i k' n
      split at e
      · rename_i hk
        obtain ⟨v, rfl, hv⟩ := h.single
        obtain rfl := Option.some.inj e
        subst hk
        exact congrArg (fun z => [z]) hv
      · cases e
    · cases e
  | .bool, l, x, vs, h, e => by
    simp only [V.dec] at e
    unfold decB at e
    split at e
    · obtain ⟨v, rfl, hv⟩ := h.single
      obtain rfl := Option.some.inj e
      exact congrArg (fun z => [z]) hv
    · cases e
  | .slice e0, l, x, vs, h, e => by
    simp only [V.dec] at e
    unfold decS at e
    split at e
    · split at e
      · rename_i hk
        obtain ⟨v, rfl, hv⟩ := h.single
        subst hk
        have e := Option.some.inj e
        simp only at e
        subst e
        exact hv.1
      · cases e
    · obtain ⟨v, rfl, hv⟩ := h.single
      obtain rfl := Option.some.inj e
      exact ⟨none, 0, [], congrArg (fun z => [z]) hv, Nat.le_refl _, rfl, fun i x hx => by simp at hx⟩
    · cases e
  | .pair a b, l, x, vs, h, e => by
    simp only [V.dec] at e
    split at e
    · rename_i x1 y1 h1 h2
      obtain rfl := Option.some.inj e
      exact ⟨vs.take a.sz, vs.drop a.sz, (List.take_append_drop _ _).symm, RepD.dec (h.take _) h1, RepD.dec (h.drop _) h2⟩
    · cases e
end Go.Proofs.YtkhjemahenkdiaaGreatDoor.V
