/- Plain lemmas for this seat's laws. -/
import Derived.Test.YtifgncaihpoijaaPrint0
namespace Go.Proofs.Ytifgncaihpoijaa.Pure
open Go.RowKit Go.Proofs.Ytifgncaihpoijaa.Print Go.Proofs.YtifgncaihpoijaaW.PrintWords Go.Proofs.YtifgncaihpoijaaW.PrintLast Go.Proofs.YtifgncaihpoijaaW.PrintMore
set_option linter.unusedVariables false
set_option linter.unusedSimpArgs false

section
variable {α β : Type} {r : α}
theorem ev_pos {c : Prop} [Decidable c] {A B : Nat → Option α} (h : c) (H : Ev A r) : Ev (fun k => if c then A k else B k) r := by
  refine Ev.congr (fun k => ?_) H
  rw [if_pos h]
theorem ev_neg {c : Prop} [Decidable c] {A B : Nat → Option α} (h : ¬ c) (H : Ev B r) : Ev (fun k => if c then A k else B k) r := by
  refine Ev.congr (fun k => ?_) H
  rw [if_neg h]
theorem ev_ite {c : Prop} [Decidable c] {A B : Nat → Option α} (h : c → Ev A r) (h' : ¬ c → Ev B r) : Ev (fun k => if c then A k else B k) r := by
  by_cases hc : c
  · exact ev_pos hc (h hc)
  · exact ev_neg hc (h' hc)
theorem ev_bindc {o : Option β} {b : β} {f : Nat → β → Option α} (h : o = some b) (H : Ev (fun k => f k b) r) : Ev (fun k => o.bind (f k)) r := by
  refine Ev.congr (fun k => ?_) H
  rw [h]
  rfl
theorem ev_bind {g : Nat → Option β} {b : β} {f : Nat → β → Option α} (h : Ev g b) (H : Ev (fun k => f k b) r) : Ev (fun k => (g k).bind (f k)) r := Ev.bind h H
theorem ev_eq {a : α} (h : a = r) : Ev (fun _ => some a) r := by rw [h]; exact Ev.now r
theorem ev_cast {g : Nat → Option α} {a : α} (h : a = r) (H : Ev g a) : Ev g r := h ▸ H
end
theorem wrap_id {x : Int} (h0 : -9223372036854775808 ≤ x) (h1 : x ≤ 9223372036854775807) : wrap64 x = x := by unfold wrap64; omega
theorem int_wf {x : Int} (h : (Lit.int .i64 x).wf = true) : -9223372036854775808 ≤ x ∧ x ≤ 9223372036854775807 := by
  simp only [Lit.wf, Bool.and_eq_true, decide_eq_true_eq] at h
  have h1 : IntKind.i64.min = -9223372036854775808 := by decide
  have h2 : IntKind.i64.max = 9223372036854775807 := by decide
  omega
theorem rd_nat (l : List Int) (i : Nat) (h : i < l.length) : rd l (i : Int) = l[i] := by simp [rd, h]

end Go.Proofs.Ytifgncaihpoijaa.Pure
