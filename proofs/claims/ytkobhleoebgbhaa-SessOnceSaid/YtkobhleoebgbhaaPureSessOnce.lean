/- Each thing pushed is taken once and in order. -/
import Derived.Test.YtkobhleoebgbhaaPureSessA
import Derived.Test.YtkobhleoebgbhaaVZ
namespace Go.Proofs.Ytkobhleoebgbhaa.V
open Go Go.RowKit
set_option linter.unusedVariables false
set_option linter.unusedSimpArgs false
theorem awake15 : f_law15_awake.f 1000 = some (true, ()) := by decide +kernel
def mg (sent : List Int) (s : Nat) : Mg := (3, (5, (((s + 1 : Nat) : Int), (att (.int .i64) sent (s : Int), ((0, 0), (0, (0, (0, 0))))))))
theorem att_i (xs : List Int) (i : Nat) (h : i < xs.length) : att (.int .i64) xs (i : Int) = xs[i] := att_n (e := .int .i64) xs i h
theorem mg_app (sent : List Int) (v : Int) (s : Nat) (h : s < sent.length) : mg (sent ++ [v]) s = mg sent s := by
  unfold mg
  rw [att_i _ _ (by rw [List.length_append]; omega), att_i _ _ h, List.getElem_append_left h]
def bufOf (d : Nat) (sent : List Int) : List Mg := (List.range' d (sent.length - d)).map (mg sent)
theorem buf_len (d : Nat) (sent : List Int) : (bufOf d sent).length = sent.length - d := by unfold bufOf; rw [List.length_map, List.length_range']
theorem buf_get (d : Nat) (sent : List Int) (i : Nat) (h : i < (bufOf d sent).length) : (bufOf d sent)[i] = mg sent (d + i) := by
  simp only [bufOf, List.getElem_map, List.getElem_range']
  simp
theorem buf_app (d : Nat) (sent : List Int) (v : Int) (h : d ≤ sent.length) : bufOf d (sent ++ [v]) = bufOf d sent ++ [(3, (5, (((sent.length + 1 : Nat) : Int), (v, ((0, 0), (0, (0, (0, 0))))))))] := by
  unfold bufOf
  have e : (sent ++ [v]).length - d = (sent.length - d) + 1 := by rw [List.length_append, List.length_singleton]; omega
  rw [e, List.range'_1_concat, List.map_append]
  congr 1
  · refine List.map_congr_left fun s hs => ?_
    rw [List.mem_range'_1] at hs
    exact mg_app sent v s (by omega)
  · rw [show d + (sent.length - d) = sent.length by omega]
    simp only [List.map_cons, List.map_nil, mg]
    rw [att_i _ _ (by rw [List.length_append, List.length_singleton]; omega), List.getElem_append_right (Nat.le_refl _)]
    simp
theorem buf_filter (d L : Nat) (sent : List Int) (h1 : d ≤ L) (h2 : L ≤ sent.length) : (bufOf d sent).filter (fresh (L : Int)) = bufOf L sent := by
  unfold bufOf
  have e : List.range' d (sent.length - d) = List.range' d (L - d) ++ List.range' L (sent.length - L) := by
    have := List.range'_append_1 (s := d) (m := L - d) (n := sent.length - L)
    rw [show d + (L - d) = L by omega, show L - d + (sent.length - L) = sent.length - d by omega] at this
    exact this.symm
  rw [e, List.map_append, List.filter_append]
  have e1 : ((List.range' d (L - d)).map (mg sent)).filter (fresh (L : Int)) = [] := List.filter_eq_nil_iff.2 fun m hm => by
    obtain ⟨s, hs, rfl⟩ := List.mem_map.1 hm
    rw [List.mem_range'_1] at hs
    have : decide (((s + 1 : Nat) : Int) ≤ (L : Int)) = true := decide_eq_true (by omega)
    unfold fresh mg
    dsimp only
    rw [this]
    simp
  have e2 : ((List.range' L (sent.length - L)).map (mg sent)).filter (fresh (L : Int)) = (List.range' L (sent.length - L)).map (mg sent) := List.filter_eq_self.2 fun m hm => by
    obtain ⟨s, hs, rfl⟩ := List.mem_map.1 hm
    rw [List.mem_range'_1] at hs
    have : decide (((s + 1 : Nat) : Int) ≤ (L : Int)) = false := decide_eq_false (by omega)
    unfold fresh mg
    dsimp only
    rw [this]; rfl
  rw [e1, e2, List.nil_append]
abbrev SSt := Int × Ss × List Int × List Int × List Mg
def stOf (L d : Nat) (sent : List Int) (wire : List Mg) : SSt := ((L : Int), (5, (((sent.length + 1 : Nat) : Int), bufOf d sent)), sent, sent.take L, wire)
def Inv15 (i : Nat) (s : SSt) : Prop := ∃ L d sent wire, s = stOf L d sent wire ∧ d ≤ L ∧ L ≤ sent.length ∧ sent.length ≤ i ∧ wire.length ≤ i ∧ ∀ w ∈ wire, ∃ q, q < sent.length ∧ w = mg sent q
section
variable (L2 : List Tf9b7.T → Int → Int → Ss → List Int → List Int → List Mg → Option f_law15_SessOnce.R) (x0 : List Tf9b7.T)
theorem j4_eq (k i L d : Nat) (sent : List Int) (wire : List Mg) (h1 : d ≤ L) (h2 : L ≤ sent.length) (hi : i < 1000) (hs : sent.length < 1000) :
    f_law15_SessOnce.j4 L2 k x0 (L : Int) (i : Int) (5, (((sent.length + 1 : Nat) : Int), bufOf d sent)) sent (sent.take L) wire = L2 x0 (L : Int) ((i + 1 : Nat) : Int) (5, (((sent.length + 1 : Nat) : Int), bufOf d sent)) sent (sent.take L) wire := by
  have hb := buf_len d sent
  have ht : (sent.take L).length = L := by rw [List.length_take]; omega
  unfold f_law15_SessOnce.j4 f_law15_SessOnce.j3 f_law15_SessOnce.j5
  dsimp only
  have hw : IntKind.i64.wrap ((sent.length : Int) - (L : Int)) = (sent.length : Int) - (L : Int) := IntWalk.i64_in _ (by omega)
  rw [ht, hw, if_neg (by (first | omega | (dsimp only [Ty.T]; omega) | (simp only [decide_eq_true_eq, decide_eq_false_iff_not, Bool.not_eq_true, Ty.T]; omega) | (simp only [decide_eq_true_eq, decide_eq_false_iff_not, Ty.T]; omega) | (simp only [beq_iff_eq, bne_iff_ne, ne_eq, decide_eq_true_eq, Ty.T]; omega))), if_neg (by simp), if_neg (by (first | omega | (dsimp only [Ty.T]; omega) | (simp only [decide_eq_true_eq, decide_eq_false_iff_not, Bool.not_eq_true, Ty.T]; omega) | (simp only [decide_eq_true_eq, decide_eq_false_iff_not, Ty.T]; omega) | (simp only [beq_iff_eq, bne_iff_ne, ne_eq, decide_eq_true_eq, Ty.T]; omega))), decide_eq_false (by omega), if_neg Bool.false_ne_true, wsucc i (by omega)]
theorem take_eq (k L q : Nat) (sent : List Int) (hq : q < 1000) : f_sess_Take.f k (5 : Int) (L : Int) (mg sent q) = some (if q < L then 6 else if L < q then 3 else 0, ()) := by
  unfold f_sess_Take.f mg
  dsimp only
  have hw : IntKind.i64.wrap (((q + 1 : Nat) : Int) - 1) = (q : Int) := by rw [IntWalk.i64_in _ (by omega)]; omega
  rw [if_neg (by simp), hw]
  by_cases h1 : q < L
  · rw [if_pos (by (first | omega | (dsimp only [Ty.T]; omega) | (simp only [decide_eq_true_eq, decide_eq_false_iff_not, Bool.not_eq_true, Ty.T]; omega) | (simp only [decide_eq_true_eq, decide_eq_false_iff_not, Ty.T]; omega) | (simp only [beq_iff_eq, bne_iff_ne, ne_eq, decide_eq_true_eq, Ty.T]; omega))), if_pos h1]
  · rw [if_neg (by (first | omega | (dsimp only [Ty.T]; omega) | (simp only [decide_eq_true_eq, decide_eq_false_iff_not, Bool.not_eq_true, Ty.T]; omega) | (simp only [decide_eq_true_eq, decide_eq_false_iff_not, Ty.T]; omega) | (simp only [beq_iff_eq, bne_iff_ne, ne_eq, decide_eq_true_eq, Ty.T]; omega))), if_neg h1]
    by_cases h2 : L < q
    · rw [if_pos (by (first | omega | (dsimp only [Ty.T]; omega) | (simp only [decide_eq_true_eq, decide_eq_false_iff_not, Bool.not_eq_true, Ty.T]; omega) | (simp only [decide_eq_true_eq, decide_eq_false_iff_not, Ty.T]; omega) | (simp only [beq_iff_eq, bne_iff_ne, ne_eq, decide_eq_true_eq, Ty.T]; omega))), if_pos h2]
    · rw [if_neg (by (first | omega | (dsimp only [Ty.T]; omega) | (simp only [decide_eq_true_eq, decide_eq_false_iff_not, Bool.not_eq_true, Ty.T]; omega) | (simp only [decide_eq_true_eq, decide_eq_false_iff_not, Ty.T]; omega) | (simp only [beq_iff_eq, bne_iff_ne, ne_eq, decide_eq_true_eq, Ty.T]; omega))), if_neg h2]
theorem j12_eq (k i L d q : Nat) (sent : List Int) (wire : List Mg) (h1 : d ≤ L) (h2 : L ≤ sent.length) (hi : i < 900) (hs : sent.length ≤ i) (hw : wire.length ≤ i) (hq : q < sent.length) (hm : ∀ w ∈ wire, ∃ q, q < sent.length ∧ w = mg sent q) :
    ∃ s', Inv15 (i + 1) s' ∧ f_law15_SessOnce.j12 L2 k x0 (L : Int) (i : Int) (5, (((sent.length + 1 : Nat) : Int), bufOf d sent)) sent (sent.take L) wire (mg sent q) = L2 x0 s'.1 ((i + 1 : Nat) : Int) s'.2.1 s'.2.2.1 s'.2.2.2.1 s'.2.2.2.2 := by
  have hm' : ∀ w ∈ wire ++ [mg sent q], ∃ q, q < sent.length ∧ w = mg sent q := by
    intro w hw
    rcases List.mem_append.1 hw with h | h
    · exact hm w h
    · exact ⟨q, hq, List.mem_singleton.1 h⟩
  have hwl : (wire ++ [mg sent q]).length ≤ i + 1 := by rw [List.length_append, List.length_singleton]; omega
  unfold f_law15_SessOnce.j12
  rw [if_pos (by omega), take_eq k L q sent (by omega), Option.bind_some]
  dsimp only
  by_cases e : q = L
  · subst e
    refine ⟨stOf (q + 1) d sent (wire ++ [mg sent q]), ⟨q + 1, d, sent, _, rfl, by omega, by omega, by omega, hwl, hm'⟩, ?_⟩
    rw [if_neg (Nat.lt_irrefl _), if_neg (Nat.lt_irrefl _), if_pos (by rfl), if_pos (by rw [List.length_take]; omega)]
    have ht : sent.take q ++ [(mg sent q).2.2.2.1] = sent.take (q + 1) := by
      rw [List.take_succ_eq_append_getElem hq]
      unfold mg
      dsimp only
      rw [att_i _ _ hq]
    rw [ht]
    exact j4_eq L2 x0 k i (q + 1) d sent (wire ++ [mg sent q]) (by omega) (by omega) (by omega) (by omega)
  · refine ⟨stOf L d sent (wire ++ [mg sent q]), ⟨L, d, sent, _, rfl, h1, h2, by omega, hwl, hm'⟩, ?_⟩
    have hc : ((if q < L then 6 else if L < q then 3 else 0 : Int) == (0 : Int)) = false := by
      rcases Nat.lt_or_gt_of_ne e with hlt | hgt
      · rw [if_pos hlt]; rfl
      · rw [if_neg (by omega), if_pos hgt]; rfl
    rw [if_neg (by rw [show ((if q < L then 6 else if L < q then 3 else 0 : Int) == (0 : Int)) = false from hc]; exact Bool.false_ne_true)]
    exact j4_eq L2 x0 k i L d sent (wire ++ [mg sent q]) h1 h2 (by omega) (by omega)
end
theorem P_SessOnce (x0 : List Tf9b7.T) (_ : Wf (.slice Tf9b7) x0) : ∃ k, f_law15_SessOnce.f k x0 = some (true, ()) := by
  refine ⟨1000, ?_⟩
  unfold f_law15_SessOnce.f
  rw [awake15, Option.bind_some, if_neg (by simp)]
  by_cases hn : (x0.length : Int) > 100
  · rw [decide_eq_true hn]; rfl
  · rw [decide_eq_false hn]
    unfold f_law15_SessOnce.j1 f_sess_New.f
    rw [if_neg Bool.false_ne_true, Option.bind_some]
    dsimp only
    refine loop_inv (fun m i (s : SSt) => f_law15_SessOnce.l2 1000 m x0 s.1 (i : Int) s.2.1 s.2.2.1 s.2.2.2.1 s.2.2.2.2) Inv15 x0.length _ (fun m i s hi hI => ?_) (fun m s hI => ?_) 1000 (by omega) (stOf 0 0 [] []) ⟨0, 0, [], [], rfl, by omega, by simp, by simp, by simp, by simp⟩
    · obtain ⟨L, d, sent, wire, rfl, h1, h2, h3, h4, h5⟩ := hI
      have hb := buf_len d sent
      have e0 : ∀ z : Tf9b7.T, (stOf L d sent wire).1 = (L : Int) := fun _ => rfl
      simp only [f_law15_SessOnce.l2, f_law15_SessOnce.b2]
      rw [if_pos (by (first | omega | (dsimp only [Ty.T]; omega) | (simp only [decide_eq_true_eq, decide_eq_false_iff_not, Bool.not_eq_true, Ty.T]; omega) | (simp only [decide_eq_true_eq, decide_eq_false_iff_not, Ty.T]; omega) | (simp only [beq_iff_eq, bne_iff_ne, ne_eq, decide_eq_true_eq, Ty.T]; omega))), if_pos (by omega), if_pos (by omega), att_n x0 i hi]
      unfold stOf
      dsimp only
      have hp1 : ((sent.length + 1 : Nat) : Int) ≤ 1048576 := by omega
      have hp2 : (-1048576 : Int) ≤ ((sent.length + 1 : Nat) : Int) := by omega
      by_cases k0 : x0[i].1 = (0 : Int)
      · rw [if_pos (by rw [k0]; rfl), push_eq 1000 (5, (((sent.length + 1 : Nat) : Int), bufOf d sent)) _ (show (bufOf d sent).length < 1000000 by omega) hp1 hp2, Option.bind_some, if_neg (by simp), if_pos (by omega)]
        refine ⟨stOf L d (sent ++ [x0[i].2.2]) wire, ⟨L, d, _, wire, rfl, h1, by rw [List.length_append]; omega, by rw [List.length_append, List.length_singleton]; omega, by omega, fun w hw => ?_⟩, ?_⟩
        · obtain ⟨q, hq, rfl⟩ := h5 w hw
          exact ⟨q, by rw [List.length_append]; omega, (mg_app sent _ q hq).symm⟩
        · have ep : push (5, (((sent.length + 1 : Nat) : Int), bufOf d sent)) (3, (0, (0, (x0[i].2.2, ((0, 0), (0, (0, (0, 0)))))))) = (5, ((((sent ++ [x0[i].2.2]).length + 1 : Nat) : Int), bufOf d (sent ++ [x0[i].2.2]))) := by
            unfold push
            rw [buf_app d sent _ (by omega), List.length_append, List.length_singleton]
            rfl
          have et : sent.take L = (sent ++ [x0[i].2.2]).take L := by rw [List.take_append_of_le_length h2]
          rw [ep]
          conv => lhs; arg 8; rw [et]
          exact j4_eq _ x0 1000 i L d (sent ++ [x0[i].2.2]) wire h1 (by rw [List.length_append]; omega) (by omega) (by rw [List.length_append, List.length_singleton]; omega)
      · rw [if_neg (by rw [beq_iff_eq]; exact k0)]
        by_cases k2 : x0[i].1 = (2 : Int)
        · rw [if_pos (by rw [k2]; rfl), done_eq 1000 (5, (((sent.length + 1 : Nat) : Int), bufOf d sent)) _ _ (show (bufOf d sent).length + 5 < 1000 by omega) (show (bufOf d sent).length < 1000000 by omega), Option.bind_some]
          refine ⟨stOf L L sent wire, ⟨L, L, sent, wire, rfl, Nat.le_refl _, h2, by omega, by omega, h5⟩, ?_⟩
          have ed : sdone (5, (((sent.length + 1 : Nat) : Int), bufOf d sent)) 5 (L : Int) = (5, (((sent.length + 1 : Nat) : Int), bufOf L sent)) := by
            unfold sdone
            dsimp only
            rw [if_pos rfl, buf_filter d L sent h1 h2]
          rw [ed]
          exact j4_eq _ x0 1000 i L L sent wire (Nat.le_refl _) h2 (by omega) (by omega)
        · rw [if_neg (by rw [beq_iff_eq]; exact k2)]
          have hskip : ∃ s', Inv15 (i + 1) s' ∧ f_law15_SessOnce.j5 (f_law15_SessOnce.l2 1000 m) 1000 x0 (L : Int) (i : Int) (5, (((sent.length + 1 : Nat) : Int), bufOf d sent)) sent (sent.take L) wire = f_law15_SessOnce.l2 1000 m x0 s'.1 ((i + 1 : Nat) : Int) s'.2.1 s'.2.2.1 s'.2.2.2.1 s'.2.2.2.2 := by
            refine ⟨stOf L d sent wire, ⟨L, d, sent, wire, rfl, h1, h2, by omega, by omega, h5⟩, ?_⟩
            unfold f_law15_SessOnce.j5
            rw [wsucc i (by omega)]
            rfl
          have hlt : ∀ z n : Int, ¬ z < 0 → ¬ z ≥ n → 0 ≤ z ∧ z < n := fun z n a b => ⟨by omega, by omega⟩
          by_cases k3 : x0[i].1 = (3 : Int)
          · rw [if_pos (by rw [k3]; rfl)]
            unfold f_law15_SessOnce.j8
            rw [if_pos (by omega), if_pos (by omega), att_n x0 i hi]
            generalize hz : x0[i].2.1 = z
            unfold f_law15_SessOnce.j9
            by_cases z1 : z < (0 : Int)
            · rw [if_pos (decide_eq_true z1), if_pos rfl]
              exact hskip
            · rw [if_neg (by rw [decide_eq_false z1]; exact Bool.false_ne_true)]
              by_cases z2 : z ≥ (wire.length : Int)
              · rw [decide_eq_true z2, if_pos rfl]
                exact hskip
              · rw [decide_eq_false z2, if_neg Bool.false_ne_true]
                obtain ⟨z3, z4⟩ := hlt z _ z1 z2
                unfold f_law15_SessOnce.j10
                rw [if_pos (by omega), if_pos (by omega), att_n x0 i hi, hz, if_pos z3, if_pos z4]
                obtain ⟨q, rfl⟩ : ∃ q : Nat, z = (q : Int) := ⟨Int.toNat z, (Int.toNat_of_nonneg z3).symm⟩
                have hql : q < wire.length := by have : ((q : Nat) : Int) < (wire.length : Int) := z4; omega
                obtain ⟨q', hq', he⟩ := h5 _ (List.getElem_mem hql)
                rw [att_n wire q hql, he]
                exact j12_eq _ x0 1000 i L d q' sent wire h1 h2 (by omega) (by omega) (by omega) hq' h5
          · rw [if_neg (by rw [beq_iff_eq]; exact k3)]
            unfold f_law15_SessOnce.j7
            rw [if_pos (by omega), if_pos (by omega), att_n x0 i hi]
            generalize hz : x0[i].2.1 = z
            unfold f_law15_SessOnce.j6
            by_cases z1 : z < (0 : Int)
            · rw [if_pos (decide_eq_true z1), if_pos rfl]
              exact hskip
            · rw [if_neg (by rw [decide_eq_false z1]; exact Bool.false_ne_true)]
              by_cases z2 : z ≥ ((bufOf d sent).length : Int)
              · rw [decide_eq_true z2, if_pos rfl]
                exact hskip
              · rw [decide_eq_false z2, if_neg Bool.false_ne_true]
                obtain ⟨z3, z4⟩ := hlt z _ z1 z2
                unfold f_law15_SessOnce.j11
                rw [if_pos (by omega), if_pos (by omega), att_n x0 i hi, hz, if_pos z3, if_pos z4]
                obtain ⟨q, rfl⟩ : ∃ q : Nat, z = (q : Int) := ⟨Int.toNat z, (Int.toNat_of_nonneg z3).symm⟩
                have hql : q < (bufOf d sent).length := by have : ((q : Nat) : Int) < ((bufOf d sent).length : Int) := z4; omega
                rw [att_n _ q hql, buf_get d sent q hql]
                exact j12_eq _ x0 1000 i L d (d + q) sent wire h1 h2 (by omega) (by omega) (by omega) (by omega) h5
    · obtain ⟨L, d, sent, wire, rfl, h1, h2, h3, h4, h5⟩ := hI
      have hb := buf_len d sent
      have hb2 := buf_len L sent
      have ht : (sent.take L).length = L := by rw [List.length_take]; omega
      simp only [f_law15_SessOnce.l2, f_law15_SessOnce.b2]
      rw [if_neg (by (first | omega | (dsimp only [Ty.T]; omega) | (simp only [decide_eq_true_eq, decide_eq_false_iff_not, Bool.not_eq_true, Ty.T]; omega) | (simp only [decide_eq_true_eq, decide_eq_false_iff_not, Ty.T]; omega) | (simp only [beq_iff_eq, bne_iff_ne, ne_eq, decide_eq_true_eq, Ty.T]; omega)))]
      unfold stOf
      dsimp only
      refine loop (fun m i => f_law15_SessOnce.l13 1000 m (L : Int) (i : Int) (5, (((sent.length + 1 : Nat) : Int), bufOf d sent)) sent (sent.take L)) L _ (fun m i hi => ?_) (fun m => ?_) 1000 (by omega)
      · simp only [f_law15_SessOnce.l13, f_law15_SessOnce.b13]
        rw [if_pos (by (first | omega | (dsimp only [Ty.T]; omega) | (simp only [decide_eq_true_eq, decide_eq_false_iff_not, Bool.not_eq_true, Ty.T]; omega) | (simp only [decide_eq_true_eq, decide_eq_false_iff_not, Ty.T]; omega) | (simp only [beq_iff_eq, bne_iff_ne, ne_eq, decide_eq_true_eq, Ty.T]; omega))), if_pos (by omega), if_pos (by omega), if_pos (by omega), att_i _ i (by omega), att_i _ i (by omega), List.getElem_take, if_neg (by simp), wsucc i (by omega)]
      · simp only [f_law15_SessOnce.l13, f_law15_SessOnce.b13]
        rw [if_neg (by (first | omega | (dsimp only [Ty.T]; omega) | (simp only [decide_eq_true_eq, decide_eq_false_iff_not, Bool.not_eq_true, Ty.T]; omega) | (simp only [decide_eq_true_eq, decide_eq_false_iff_not, Ty.T]; omega) | (simp only [beq_iff_eq, bne_iff_ne, ne_eq, decide_eq_true_eq, Ty.T]; omega))), done_eq 1000 (5, (((sent.length + 1 : Nat) : Int), bufOf d sent)) 5 _ (show (bufOf d sent).length + 5 < 1000 by omega) (show (bufOf d sent).length < 1000000 by omega), Option.bind_some, done_eq 1000 (5, (((sent.length + 1 : Nat) : Int), bufOf d sent)) 6 _ (show (bufOf d sent).length + 5 < 1000 by omega) (show (bufOf d sent).length < 1000000 by omega), Option.bind_some]
        have hw : IntKind.i64.wrap ((sent.length : Int) - (L : Int)) = (sent.length : Int) - (L : Int) := IntWalk.i64_in _ (by omega)
        unfold sdone
        dsimp only
        rw [if_pos rfl, buf_filter d L sent h1 h2, hb2, ht, hw, if_pos (by rw [beq_iff_eq]; omega), if_neg (by decide)]
        simp
end Go.Proofs.Ytkobhleoebgbhaa.V
