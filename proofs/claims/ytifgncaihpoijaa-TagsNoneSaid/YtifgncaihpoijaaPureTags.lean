/- Plain lemmas for this seat's laws. -/
import Derived.Test.YtifgncaihpoijaaPrint8
import Derived.Test.YtifgncaihpoijaaPrint10
import Derived.Test.YtifgncaihpoijaaPrint11
import Derived.Test.YtifgncaihpoijaaPureEv
namespace Go.Proofs.Ytifgncaihpoijaa.Pure
open Go.RowKit Go.Proofs.Ytifgncaihpoijaa.Print Go.Proofs.YtifgncaihpoijaaW.PrintWords Go.Proofs.YtifgncaihpoijaaW.PrintLast Go.Proofs.YtifgncaihpoijaaW.PrintMore
set_option linter.unusedVariables false
set_option linter.unusedSimpArgs false

theorem candN_succ {fr : Int} (h0 : 0 ≤ fr) (j : Nat) : candN fr (j + 1) = candN fr j % 4095 + 1 := by unfold candN; omega
theorem candN_inj {fr : Int} (h0 : 0 ≤ fr) {i j : Nat} (hi : i < 4095) (hj : j < 4095) (h : candN fr i = candN fr j) : i = j := by
  unfold candN at h
  omega
theorem nodup_len : ∀ (l m : List Int), l.Nodup → (∀ x ∈ l, x ∈ m) → l.length ≤ m.length
  | [], m, _, _ => Nat.zero_le _
  | x :: l, m, hn, hs => by
    rw [List.nodup_cons] at hn
    have h := nodup_len l (m.erase x) hn.2 (fun y hy => by
      have : y ≠ x := fun e => hn.1 (e ▸ hy)
      exact (List.mem_erase_of_ne this).2 (hs y (List.mem_cons_of_mem _ hy)))
    rw [List.length_erase_of_mem (hs x List.mem_cons_self)] at h
    have : 0 < m.length := List.length_pos_of_mem (hs x List.mem_cons_self)
    simp
    omega
/-- There is a free one among the first so many. -/
theorem cand_free {fr : Int} (h0 : 0 ≤ fr) (l : List Int) (hl : l.length < 4095) : ∃ k, k < 4095 ∧ candN fr k ∉ l := by
  apply Classical.byContradiction
  intro hc
  have h := nodup_len ((List.range 4095).map (candN fr)) l (by
    rw [List.Nodup, List.pairwise_map]
    refine List.Pairwise.imp_of_mem ?_ (List.nodup_range (n := 4095))
    intro a b ha hb hab he
    exact hab (candN_inj h0 (by simpa using ha) (by simpa using hb) he)) (by
    intro x hx
    obtain ⟨k, hk, rfl⟩ := List.mem_map.1 hx
    apply Classical.byContradiction
    intro hk2
    exact hc ⟨k, by simpa using hk, hk2⟩)
  simp at h
  omega
theorem frOf_range (tag : Int) : 0 ≤ frOf tag ∧ frOf tag ≤ 4095 := by unfold frOf; split <;> omega
theorem frOf_tag {tag : Int} (h0 : 0 ≤ tag) (h1 : tag ≤ 4095) : frOf tag = tag := by unfold frOf; rw [if_neg (by omega)]
/-- The first free one. -/
theorem first_free {fr : Int} (l : List Int) (k : Nat) (hk : k < 4095) (h : candN fr k ∉ l) : ∃ m, m < 4095 ∧ candN fr m ∉ l ∧ ∀ j, j < m → candN fr j ∈ l := by
  induction k using Nat.strongRecOn with
  | _ k ih =>
    by_cases hex : ∃ j, j < k ∧ candN fr j ∉ l
    · obtain ⟨j, hj, hn⟩ := hex
      exact ih j hj (by omega) hn
    · exact ⟨k, hk, h, fun j hj => Classical.byContradiction fun hn => hex ⟨j, hj, hn⟩⟩
theorem next_tells (tag : Int) (used : List Int) (hl : used.length < 4094) :
    ∃ m, m < 4095 ∧ nextSpec tag used = candN (frOf tag) m ∧ candN (frOf tag) m ∉ used ++ [tag] ∧ ∀ j, j < m → candN (frOf tag) j ∈ used ++ [tag] := by
  obtain ⟨k, hk, hn⟩ := cand_free (frOf_range tag).1 (used ++ [tag]) (by simp; omega)
  obtain ⟨m, hm, hf, hj⟩ := first_free _ k hk hn
  exact ⟨m, hm, nextSpec_found hm hj hf, hf, hj⟩
theorem next_f (tag : Int) (used : List Int) (hl : used.length < 17592186044415) : tags_Next.f tag used = some (nextSpec tag used) := by unfold tags_Next.f; rw [if_pos hl]
theorem next_ex1 : nextSpec 1 [2] = 3 := by
  rw [nextSpec_found (k := 1) (by decide) (fun j hj => by obtain rfl : j = 0 := (by omega); decide) (by decide)]
  decide
theorem next_ex2 : nextSpec 4095 [] = 1 := by
  rw [nextSpec_found (k := 0) (by decide) (fun j hj => by omega) (by decide)]
  decide
theorem awake16 : wayfinderlaw16_awake.f = some true := by
  unfold wayfinderlaw16_awake.f
  rw [next_f _ _ (by simp), next_f _ _ (by simp), next_ex1, next_ex2]
  simp [tags_Of.f, ofSpec]
theorem of_snoc (l : List S47) (g : S47) (t : Int) : ofSpec (l ++ [g]) t = if g.f0 = t then g.f1 else ofSpec l t := by
  unfold ofSpec
  by_cases h : g.f0 = t
  · simp [h]
  · simp [h]

end Go.Proofs.Ytifgncaihpoijaa.Pure
