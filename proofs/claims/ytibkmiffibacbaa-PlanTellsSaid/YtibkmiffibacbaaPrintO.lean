/- A text that a program of this session printed out of the translation: checked by Lean alone. -/
import Derived.Test.YtibkmiffibacbaaPrint0
import Derived.Deep.Slices
import Derived.DataReads
import Derived.ChangeArms
namespace Go.Proofs.Ytibkmiffibacbaa.Print
open Go.RowKit Go.Proofs.YtibkmiffibacbaaW.PrintWords Go.Proofs.YtibkmiffibacbaaW.PrintLast Go.Proofs.YtibkmiffibacbaaW.PrintMore
attribute [local go_sem] max2_int min2_int max_two min_two max_three min_three max_four min_four   -- for this text's walks alone
set_option linter.unusedVariables false
set_option linter.unusedSimpArgs false

/-- What reads as data of type t has cells of the kind d, of a value that is as it may be. -/
def Opens {α : Type} (P : Program) (t : TypeId) (d : Kd α) (wf : α → Prop) : Prop :=
  P.cellsOf t = d.sz ∧ ∀ (H : Type) (enc : TypeId × Value → H) (w : World) (sp : Nat → Bool) (held : Bool) (fuel : Nat) (cs : List Value) (y : DataW H × List MemPlace),
    DataW.trod enc P w 0 sp held fuel t cs = some y → ∃ x, d.K w x cs ∧ wf x
section
variable {P : Program}
theorem opens_int {t : TypeId} (k : IntKind) (hu : P.underlying t = some (.int k)) (hs : P.cellsOf t = 1) : Opens P t (Kd.int k) (fun x => (Lit.int k x).wf = true) :=
  ⟨hs, fun H enc w sp held fuel cs y h => by
    obtain ⟨n, rfl, _, hw⟩ := DataW.trod_int hu h
    exact ⟨n, rfl, hw⟩⟩
theorem opens_bool {t : TypeId} (hu : P.underlying t = some .bool) (hs : P.cellsOf t = 1) : Opens P t Kd.bool (fun _ => True) :=
  ⟨hs, fun H enc w sp held fuel cs y h => by
    obtain ⟨b, rfl, _⟩ := DataW.trod_bool hu h
    exact ⟨b, rfl, trivial⟩⟩
theorem opens_string {t : TypeId} (hu : P.underlying t = some .string) (hs : P.cellsOf t = 1) : Opens P t Kd.string (fun s => s.size ≤ maxLen) :=
  ⟨hs, fun H enc w sp held fuel cs y h => by
    obtain ⟨s, rfl, _, hm⟩ := DataW.trod_string hu h
    exact ⟨s, rfl, hm⟩⟩
theorem cells_at {w : World} {base : Nat} {a : Addr} {n : Nat} {cs : List Value} (h : w.cells? base a n = some cs) : cs.length = n ∧ ∀ i u, cs[i]? = some u → w.cell? (a.add i) = some u := by
  unfold World.cells? at h
  split at h
  · have hl : cs.length = n := by simpa using mapM_some_length h
    refine ⟨hl, fun i u hu => ?_⟩
    have hi : i < n := by rw [← hl]; exact (List.getElem?_eq_some_iff.1 hu).1
    rw [mapM_some_get h i i (List.getElem?_range hi), hu]
  · cases h
theorem opens_slice {t e : TypeId} {α : Type} [Inhabited α] {d : Kd α} {wf : α → Prop} (hu : P.underlying t = some (.slice e)) (hs : P.cellsOf t = 1) (ho : Opens P e d wf) :
    Opens P t (Kd.slice e d) (fun l => l.length ≤ maxLen ∧ ∀ x ∈ l, wf x) :=
  ⟨hs, fun H enc w sp held fuel cs y h => by
    rcases Go.Deep.open_slice hu h with ⟨rfl, _⟩ | ⟨a, len, cap, m, n, D, Pl, rfl, _, hl, hm, hmm, _, hel⟩
    · exact ⟨[], ⟨none, 0, rfl, Nat.le_refl _, Kd.C_nil d w⟩, by simp, by simp⟩
    · have hle : len ≤ m := by rw [hmm]; split <;> omega
      have hx : ∀ i, i < len → ∃ x : α, (∃ c, c.length = d.sz ∧ d.K w x c ∧ ∀ j u, c[j]? = some u → w.cell? (a.add (i * d.sz + j)) = some u) ∧ wf x := by
        intro i hi
        obtain ⟨c, hc, hr⟩ := hel i (by omega)
        obtain ⟨hcl, hcc⟩ := cells_at hc
        obtain ⟨x, hK, hw⟩ := ho.2 H enc w sp held n c _ hr
        refine ⟨x, ⟨c, by rw [hcl, ho.1], hK, fun j u hu => ?_⟩, hw⟩
        rw [← ho.1, ← Go.Deep.add_add]
        exact hcc j u hu
      obtain ⟨f, hf⟩ := Go.Deep.choose_lt hx
      refine ⟨(List.range len).map f, ⟨some a, cap, by simp, by simpa using hl, by simp, by simp only [List.length_map, List.length_range]; unfold maxLen at hm; omega, fun _ => ⟨a, rfl, fun j p hj => ?_⟩⟩, by simp; omega, ?_⟩
      · have hjl : j < len := by simpa using (List.getElem?_eq_some_iff.1 hj).1
        rw [List.getElem?_map, List.getElem?_range hjl] at hj
        obtain rfl := Option.some.inj hj
        exact (hf j hjl).1
      · intro x hx2
        obtain ⟨i, hi, rfl⟩ := List.mem_map.1 hx2
        exact (hf i (by simpa using hi)).2⟩
theorem trod_fields {H : Type} {enc : TypeId × Value → H} {w : World} {sp : Nat → Bool} {held : Bool} {t : TypeId} {fs : Array Field} (hu : P.underlying t = some (.struct fs)) {fuel : Nat} {cs : List Value} {y : DataW H × List MemPlace}
    (h : DataW.trod enc P w 0 sp held fuel t cs = some y) : cs.length = P.cellsOf t ∧ ∃ n, ∀ (i : Nat) (f : Field), fs[i]? = some f → ∃ z, DataW.trod enc P w 0 sp held n f.type ((cs.drop f.offset).take (P.cellsOf f.type)) = some z := by
  obtain ⟨xs, n, _, _, hl, hxl, hf⟩ := DataW.trod_struct hu h
  refine ⟨hl, n, fun i f hi => ?_⟩
  have hlt : i < xs.length := by rw [hxl]; exact (Array.getElem?_eq_some_iff.1 hi).1
  exact ⟨xs[i], by rw [hf i f hi, List.getElem?_eq_getElem hlt]⟩
theorem cut_at (cs : List Value) (o s : Nat) : cs.drop o = (cs.drop o).take s ++ cs.drop (o + s) := by
  rw [← List.drop_drop, List.take_append_drop]
end

theorem opens_t3 : Opens Try.prog 3 (Kd.int .i64) (fun x : Int => (Lit.int .i64 x).wf = true) := opens_int .i64 Try.underlying3 (by kernel_rfl)
instance : Inhabited S28 := ⟨z28⟩
def wfT28 (x : S28) : Prop := (fun x : Int => (Lit.int .i64 x).wf = true) x.f0 ∧ (fun x : Int => (Lit.int .i64 x).wf = true) x.f1
theorem opens_t28 : Opens Try.prog 28 k28 wfT28 :=
  ⟨by kernel_rfl, fun H enc w sp held fuel cs y h => by
    obtain ⟨hl, n, hf⟩ := trod_fields Try.underlying28 h
    have hl2 : cs.length = 2 := hl.trans (by kernel_rfl)
    obtain ⟨y0, hy0⟩ := hf 0 _ rfl
    obtain ⟨x0, K0, W0⟩ := opens_t3.2 H enc w sp held n _ _ hy0
    have K0 : (Kd.int .i64).K w x0 ((cs.drop 0).take (Try.prog.cellsOf 3)) := K0
    rw [show Try.prog.cellsOf 3 = 1 by kernel_rfl] at K0
    obtain ⟨y1, hy1⟩ := hf 1 _ rfl
    obtain ⟨x1, K1, W1⟩ := opens_t3.2 H enc w sp held n _ _ hy1
    have K1 : (Kd.int .i64).K w x1 ((cs.drop 1).take (Try.prog.cellsOf 3)) := K1
    rw [show Try.prog.cellsOf 3 = 1 by kernel_rfl] at K1
    rw [List.take_of_length_le (by rw [List.length_drop]; omega)] at K1
    exact ⟨⟨x0, x1⟩, ⟨(cs.drop 0).take 1, cs.drop 1, cut_at cs 0 1, K0, K1⟩, ⟨W0, W1⟩⟩⟩
instance : Inhabited S30 := ⟨z30⟩
def wfT30 (x : S30) : Prop := (fun x : Int => (Lit.int .i64 x).wf = true) x.f0 ∧ (fun x : Int => (Lit.int .i64 x).wf = true) x.f1
theorem opens_t30 : Opens Try.prog 30 k30 wfT30 :=
  ⟨by kernel_rfl, fun H enc w sp held fuel cs y h => by
    obtain ⟨hl, n, hf⟩ := trod_fields Try.underlying30 h
    have hl2 : cs.length = 2 := hl.trans (by kernel_rfl)
    obtain ⟨y0, hy0⟩ := hf 0 _ rfl
    obtain ⟨x0, K0, W0⟩ := opens_t3.2 H enc w sp held n _ _ hy0
    have K0 : (Kd.int .i64).K w x0 ((cs.drop 0).take (Try.prog.cellsOf 3)) := K0
    rw [show Try.prog.cellsOf 3 = 1 by kernel_rfl] at K0
    obtain ⟨y1, hy1⟩ := hf 1 _ rfl
    obtain ⟨x1, K1, W1⟩ := opens_t3.2 H enc w sp held n _ _ hy1
    have K1 : (Kd.int .i64).K w x1 ((cs.drop 1).take (Try.prog.cellsOf 3)) := K1
    rw [show Try.prog.cellsOf 3 = 1 by kernel_rfl] at K1
    rw [List.take_of_length_le (by rw [List.length_drop]; omega)] at K1
    exact ⟨⟨x0, x1⟩, ⟨(cs.drop 0).take 1, cs.drop 1, cut_at cs 0 1, K0, K1⟩, ⟨W0, W1⟩⟩⟩
instance : Inhabited S32 := ⟨z32⟩
def wfT32 (x : S32) : Prop := wfT28 x.f0 ∧ (fun x : Int => (Lit.int .i64 x).wf = true) x.f1 ∧ (fun x : Int => (Lit.int .i64 x).wf = true) x.f2 ∧ wfT30 x.f3
theorem opens_t32 : Opens Try.prog 32 k32 wfT32 :=
  ⟨by kernel_rfl, fun H enc w sp held fuel cs y h => by
    obtain ⟨hl, n, hf⟩ := trod_fields Try.underlying32 h
    have hl2 : cs.length = 6 := hl.trans (by kernel_rfl)
    obtain ⟨y0, hy0⟩ := hf 0 _ rfl
    obtain ⟨x0, K0, W0⟩ := opens_t28.2 H enc w sp held n _ _ hy0
    have K0 : k28.K w x0 ((cs.drop 0).take (Try.prog.cellsOf 28)) := K0
    rw [show Try.prog.cellsOf 28 = 2 by kernel_rfl] at K0
    obtain ⟨y1, hy1⟩ := hf 1 _ rfl
    obtain ⟨x1, K1, W1⟩ := opens_t3.2 H enc w sp held n _ _ hy1
    have K1 : (Kd.int .i64).K w x1 ((cs.drop 2).take (Try.prog.cellsOf 3)) := K1
    rw [show Try.prog.cellsOf 3 = 1 by kernel_rfl] at K1
    obtain ⟨y2, hy2⟩ := hf 2 _ rfl
    obtain ⟨x2, K2, W2⟩ := opens_t3.2 H enc w sp held n _ _ hy2
    have K2 : (Kd.int .i64).K w x2 ((cs.drop 3).take (Try.prog.cellsOf 3)) := K2
    rw [show Try.prog.cellsOf 3 = 1 by kernel_rfl] at K2
    obtain ⟨y3, hy3⟩ := hf 3 _ rfl
    obtain ⟨x3, K3, W3⟩ := opens_t30.2 H enc w sp held n _ _ hy3
    have K3 : k30.K w x3 ((cs.drop 4).take (Try.prog.cellsOf 30)) := K3
    rw [show Try.prog.cellsOf 30 = 2 by kernel_rfl] at K3
    rw [List.take_of_length_le (by rw [List.length_drop]; omega)] at K3
    exact ⟨⟨x0, x1, x2, x3⟩, ⟨(cs.drop 0).take 2, cs.drop 2, cut_at cs 0 2, K0, ⟨(cs.drop 2).take 1, cs.drop 3, cut_at cs 2 1, K1, ⟨(cs.drop 3).take 1, cs.drop 4, cut_at cs 3 1, K2, K3⟩⟩⟩, ⟨W0, W1, W2, W3⟩⟩⟩
theorem opens_t35 : Opens Try.prog 35 (Kd.slice 32 k32) (fun l : List (S32) => l.length ≤ maxLen ∧ ∀ x ∈ l, wfT32 x) := opens_slice Try.underlying35 (by kernel_rfl) opens_t32
instance : Inhabited S37 := ⟨z37⟩
def wfT37 (x : S37) : Prop := (fun x : Int => (Lit.int .i64 x).wf = true) x.f0 ∧ (fun l : List (S32) => l.length ≤ maxLen ∧ ∀ x ∈ l, wfT32 x) x.f1
theorem opens_t37 : Opens Try.prog 37 k37 wfT37 :=
  ⟨by kernel_rfl, fun H enc w sp held fuel cs y h => by
    obtain ⟨hl, n, hf⟩ := trod_fields Try.underlying37 h
    have hl2 : cs.length = 2 := hl.trans (by kernel_rfl)
    obtain ⟨y0, hy0⟩ := hf 0 _ rfl
    obtain ⟨x0, K0, W0⟩ := opens_t3.2 H enc w sp held n _ _ hy0
    have K0 : (Kd.int .i64).K w x0 ((cs.drop 0).take (Try.prog.cellsOf 3)) := K0
    rw [show Try.prog.cellsOf 3 = 1 by kernel_rfl] at K0
    obtain ⟨y1, hy1⟩ := hf 1 _ rfl
    obtain ⟨x1, K1, W1⟩ := opens_t35.2 H enc w sp held n _ _ hy1
    have K1 : (Kd.slice 32 k32).K w x1 ((cs.drop 1).take (Try.prog.cellsOf 35)) := K1
    rw [show Try.prog.cellsOf 35 = 1 by kernel_rfl] at K1
    rw [List.take_of_length_le (by rw [List.length_drop]; omega)] at K1
    exact ⟨⟨x0, x1⟩, ⟨(cs.drop 0).take 1, cs.drop 1, cut_at cs 0 1, K0, K1⟩, ⟨W0, W1⟩⟩⟩
theorem opens_t22 : Opens Try.prog 22 (Kd.slice 37 k37) (fun l : List (S37) => l.length ≤ maxLen ∧ ∀ x ∈ l, wfT37 x) := opens_slice Try.underlying22 (by kernel_rfl) opens_t37
instance : Inhabited S45 := ⟨z45⟩
def wfT45 (x : S45) : Prop := (fun x : Int => (Lit.int .i64 x).wf = true) x.f0 ∧ (fun x : Int => (Lit.int .i64 x).wf = true) x.f1 ∧ (fun x : Int => (Lit.int .i64 x).wf = true) x.f2
theorem opens_t45 : Opens Try.prog 45 k45 wfT45 :=
  ⟨by kernel_rfl, fun H enc w sp held fuel cs y h => by
    obtain ⟨hl, n, hf⟩ := trod_fields Try.underlying45 h
    have hl2 : cs.length = 3 := hl.trans (by kernel_rfl)
    obtain ⟨y0, hy0⟩ := hf 0 _ rfl
    obtain ⟨x0, K0, W0⟩ := opens_t3.2 H enc w sp held n _ _ hy0
    have K0 : (Kd.int .i64).K w x0 ((cs.drop 0).take (Try.prog.cellsOf 3)) := K0
    rw [show Try.prog.cellsOf 3 = 1 by kernel_rfl] at K0
    obtain ⟨y1, hy1⟩ := hf 1 _ rfl
    obtain ⟨x1, K1, W1⟩ := opens_t3.2 H enc w sp held n _ _ hy1
    have K1 : (Kd.int .i64).K w x1 ((cs.drop 1).take (Try.prog.cellsOf 3)) := K1
    rw [show Try.prog.cellsOf 3 = 1 by kernel_rfl] at K1
    obtain ⟨y2, hy2⟩ := hf 2 _ rfl
    obtain ⟨x2, K2, W2⟩ := opens_t3.2 H enc w sp held n _ _ hy2
    have K2 : (Kd.int .i64).K w x2 ((cs.drop 2).take (Try.prog.cellsOf 3)) := K2
    rw [show Try.prog.cellsOf 3 = 1 by kernel_rfl] at K2
    rw [List.take_of_length_le (by rw [List.length_drop]; omega)] at K2
    exact ⟨⟨x0, x1, x2⟩, ⟨(cs.drop 0).take 1, cs.drop 1, cut_at cs 0 1, K0, ⟨(cs.drop 1).take 1, cs.drop 2, cut_at cs 1 1, K1, K2⟩⟩, ⟨W0, W1, W2⟩⟩⟩
theorem opens_t39 : Opens Try.prog 39 (Kd.slice 45 k45) (fun l : List (S45) => l.length ≤ maxLen ∧ ∀ x ∈ l, wfT45 x) := opens_slice Try.underlying39 (by kernel_rfl) opens_t45
instance : Inhabited S34 := ⟨z34⟩
def wfT34 (x : S34) : Prop := (fun x : Int => (Lit.int .i64 x).wf = true) x.f0 ∧ (fun x : Int => (Lit.int .i64 x).wf = true) x.f1 ∧ (fun x : Int => (Lit.int .i64 x).wf = true) x.f2 ∧ (fun x : Int => (Lit.int .i64 x).wf = true) x.f3 ∧ wfT32 x.f4
theorem opens_t34 : Opens Try.prog 34 k34 wfT34 :=
  ⟨by kernel_rfl, fun H enc w sp held fuel cs y h => by
    obtain ⟨hl, n, hf⟩ := trod_fields Try.underlying34 h
    have hl2 : cs.length = 10 := hl.trans (by kernel_rfl)
    obtain ⟨y0, hy0⟩ := hf 0 _ rfl
    obtain ⟨x0, K0, W0⟩ := opens_t3.2 H enc w sp held n _ _ hy0
    have K0 : (Kd.int .i64).K w x0 ((cs.drop 0).take (Try.prog.cellsOf 3)) := K0
    rw [show Try.prog.cellsOf 3 = 1 by kernel_rfl] at K0
    obtain ⟨y1, hy1⟩ := hf 1 _ rfl
    obtain ⟨x1, K1, W1⟩ := opens_t3.2 H enc w sp held n _ _ hy1
    have K1 : (Kd.int .i64).K w x1 ((cs.drop 1).take (Try.prog.cellsOf 3)) := K1
    rw [show Try.prog.cellsOf 3 = 1 by kernel_rfl] at K1
    obtain ⟨y2, hy2⟩ := hf 2 _ rfl
    obtain ⟨x2, K2, W2⟩ := opens_t3.2 H enc w sp held n _ _ hy2
    have K2 : (Kd.int .i64).K w x2 ((cs.drop 2).take (Try.prog.cellsOf 3)) := K2
    rw [show Try.prog.cellsOf 3 = 1 by kernel_rfl] at K2
    obtain ⟨y3, hy3⟩ := hf 3 _ rfl
    obtain ⟨x3, K3, W3⟩ := opens_t3.2 H enc w sp held n _ _ hy3
    have K3 : (Kd.int .i64).K w x3 ((cs.drop 3).take (Try.prog.cellsOf 3)) := K3
    rw [show Try.prog.cellsOf 3 = 1 by kernel_rfl] at K3
    obtain ⟨y4, hy4⟩ := hf 4 _ rfl
    obtain ⟨x4, K4, W4⟩ := opens_t32.2 H enc w sp held n _ _ hy4
    have K4 : k32.K w x4 ((cs.drop 4).take (Try.prog.cellsOf 32)) := K4
    rw [show Try.prog.cellsOf 32 = 6 by kernel_rfl] at K4
    rw [List.take_of_length_le (by rw [List.length_drop]; omega)] at K4
    exact ⟨⟨x0, x1, x2, x3, x4⟩, ⟨(cs.drop 0).take 1, cs.drop 1, cut_at cs 0 1, K0, ⟨(cs.drop 1).take 1, cs.drop 2, cut_at cs 1 1, K1, ⟨(cs.drop 2).take 1, cs.drop 3, cut_at cs 2 1, K2, ⟨(cs.drop 3).take 1, cs.drop 4, cut_at cs 3 1, K3, K4⟩⟩⟩⟩, ⟨W0, W1, W2, W3, W4⟩⟩⟩
theorem opens_t25 : Opens Try.prog 25 (Kd.slice 34 k34) (fun l : List (S34) => l.length ≤ maxLen ∧ ∀ x ∈ l, wfT34 x) := opens_slice Try.underlying25 (by kernel_rfl) opens_t34
instance : Inhabited S41 := ⟨z41⟩
def wfT41 (x : S41) : Prop := (fun x : Int => (Lit.int .i64 x).wf = true) x.f0 ∧ (fun x : Int => (Lit.int .i64 x).wf = true) x.f1 ∧ (fun l : List (S34) => l.length ≤ maxLen ∧ ∀ x ∈ l, wfT34 x) x.f2
theorem opens_t41 : Opens Try.prog 41 k41 wfT41 :=
  ⟨by kernel_rfl, fun H enc w sp held fuel cs y h => by
    obtain ⟨hl, n, hf⟩ := trod_fields Try.underlying41 h
    have hl2 : cs.length = 3 := hl.trans (by kernel_rfl)
    obtain ⟨y0, hy0⟩ := hf 0 _ rfl
    obtain ⟨x0, K0, W0⟩ := opens_t3.2 H enc w sp held n _ _ hy0
    have K0 : (Kd.int .i64).K w x0 ((cs.drop 0).take (Try.prog.cellsOf 3)) := K0
    rw [show Try.prog.cellsOf 3 = 1 by kernel_rfl] at K0
    obtain ⟨y1, hy1⟩ := hf 1 _ rfl
    obtain ⟨x1, K1, W1⟩ := opens_t3.2 H enc w sp held n _ _ hy1
    have K1 : (Kd.int .i64).K w x1 ((cs.drop 1).take (Try.prog.cellsOf 3)) := K1
    rw [show Try.prog.cellsOf 3 = 1 by kernel_rfl] at K1
    obtain ⟨y2, hy2⟩ := hf 2 _ rfl
    obtain ⟨x2, K2, W2⟩ := opens_t25.2 H enc w sp held n _ _ hy2
    have K2 : (Kd.slice 34 k34).K w x2 ((cs.drop 2).take (Try.prog.cellsOf 25)) := K2
    rw [show Try.prog.cellsOf 25 = 1 by kernel_rfl] at K2
    rw [List.take_of_length_le (by rw [List.length_drop]; omega)] at K2
    exact ⟨⟨x0, x1, x2⟩, ⟨(cs.drop 0).take 1, cs.drop 1, cut_at cs 0 1, K0, ⟨(cs.drop 1).take 1, cs.drop 2, cut_at cs 1 1, K1, K2⟩⟩, ⟨W0, W1, W2⟩⟩⟩
theorem opens_t43 : Opens Try.prog 43 (Kd.slice 3 (Kd.int .i64)) (fun l : List Int => l.length ≤ maxLen ∧ ∀ x ∈ l, (fun x : Int => (Lit.int .i64 x).wf = true) x) := opens_slice Try.underlying43 (by kernel_rfl) opens_t3
end Go.Proofs.Ytibkmiffibacbaa.Print
