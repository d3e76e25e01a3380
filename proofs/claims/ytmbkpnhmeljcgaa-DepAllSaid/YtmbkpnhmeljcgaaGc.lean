/- What the document's Make comes to. No conditions beyond each theorem's own. -/
import Derived.Test.YtmbkpnhmeljcgaaGb
set_option linter.unusedVariables false
set_option linter.unusedSimpArgs false
namespace Go.PrS
open Go Go.Ev Go.Proofs
abbrev noG : L_api_Graph := ([], [], ())
theorem rmake_row (s : List (List Int)) (hs : s.length ≤ 64) (i : Nat) (hi : i < s.length) (hl : (s.getD i []).length ≤ reachBytes) :
    EvTo (fun k => lockstepref06_Make_l8 k s noG (s.length : Int) (i : Int) 0) (cond (rsg (s.length : Int) (-1) (s.getD i [])) (Sum.inl noG) (Sum.inr (5, noG))) := by
  have hm := reach_le
  have h0 : okFrom (s.length : Int) (s.getD i []) 0 = rsg (s.length : Int) (-1) (s.getD i []) := by unfold okFrom; rw [if_pos rfl, List.drop_zero]
  rw [← h0]
  refine EvTo.range (γ := Unit) (s.getD i []) (fun k j _ => lockstepref06_Make_l8 k s noG (s.length : Int) (i : Int) (j : Int)) (fun j _ _ => cond (okFrom (s.length : Int) (s.getD i []) j) (Sum.inl noG) (Sum.inr (5, noG))) (fun j _ => 0 < j → 0 ≤ (s.getD i []).getD (j - 1) 0)
    (fun _ _ => EvTo.succ ?_) (fun j hj _ hp ih => EvTo.succ ?_) () (fun h => by omega)
  · simp only [lockstepref06_Make_l8]
    rw [Int.toNat_natCast]
    refine EvTo.ifp (by omega) (EvTo.ifn (by simp) (EvTo.pure' ?_))
    unfold okFrom; rw [List.drop_of_length_le (Nat.le_refl _)]; rfl
  · have hok := okFrom_step (s.length : Int) (s.getD i []) j hj
    have hnext := ih ()
    rw [Nat.add_sub_cancel] at hnext
    simp only [lockstepref06_Make_l8]
    rw [Int.toNat_natCast, Int.toNat_natCast, wrapS hj (by omega)]
    refine EvTo.ifp (by omega) (EvTo.ifp (by simpa using hj) (EvTo.ifp (by omega) (EvTo.ifp (by omega) ?_)))
    generalize (s.getD i []).getD j 0 = x at hok hnext
    by_cases hx : x < 0
    · refine EvTo.ifn (by simpa using hx) (EvTo.pure' ?_)
      rw [hok, if_pos]
      · rfl
      · split
        · omega
        · have := hp (by omega); omega
    · refine EvTo.ifp (by simpa using hx) (EvTo.ifp (by omega) (EvTo.ifp (by omega) ?_))
      by_cases hx2 : x ≥ (s.length : Int)
      · refine EvTo.ifn (by simpa using hx2) (EvTo.pure' ?_)
        rw [hok, if_pos hx2, ite_self]; rfl
      · refine EvTo.ifp (by simpa using hx2) ?_
        by_cases hj0 : j = 0
        · subst hj0
          refine EvTo.ifn (by simp) ?_
          rw [if_pos rfl, if_neg (by omega), if_neg hx2] at hok
          rw [hok]
          exact hnext (fun _ => by omega)
        · refine EvTo.ifp (by simp; omega) ?_
          have ew : IntKind.wrap .i64 ((j : Int) - 1) = ((j - 1 : Nat) : Int) := by rw [wrap_i64 (by omega) (by omega)]; omega
          rw [ew, Int.toNat_natCast]
          rw [if_neg hj0] at hok
          refine EvTo.ifp (by omega) (EvTo.ifp (by omega) (EvTo.ifp (by omega) (EvTo.ifp (by omega) ?_)))
          by_cases hx3 : x ≤ (s.getD i []).getD (j - 1) 0
          · refine EvTo.ifp (by simpa using hx3) (EvTo.pure' ?_)
            rw [hok, if_pos hx3]; rfl
          · refine EvTo.ifn (by simpa using hx3) ?_
            rw [if_neg hx3, if_neg hx2] at hok
            rw [hok]
            exact hnext (fun _ => by omega)
theorem rmake_rows (s : List (List Int)) (hs : s.length ≤ 64) (hr : ∀ l ∈ s, l.length ≤ reachBytes) :
    EvTo (fun k => lockstepref06_Make_l5 k s noG (s.length : Int) 0) (cond (s.all (rsg (s.length : Int) (-1))) (Sum.inl noG) (Sum.inr (5, noG))) := by
  refine EvTo.range0 s (fun k i => lockstepref06_Make_l5 k s noG (s.length : Int) (i : Int)) (fun _ r => cond (r.all (rsg (s.length : Int) (-1))) (Sum.inl noG) (Sum.inr (5, noG))) (EvTo.succ ?_) (fun i hi ih => EvTo.succ ?_)
  · simp only [lockstepref06_Make_l5]
    exact EvTo.ifn (by simp) EvTo.pure
  · simp only [lockstepref06_Make_l5]
    have h1 := rmake_row s hs i hi (hr _ (getD_mem hi))
    rw [getN hi] at h1
    refine EvTo.ifp (by simpa using hi) (EvTo.bind h1 ?_)
    rw [List.all_cons]
    cases rsg (s.length : Int) (-1) s[i] with
    | true =>
      rw [wrapS hi (by omega)]
      exact ih
    | false => exact EvTo.pure
theorem rmake_fill {S : List (List Nat)} (h : Gr S) (i : Nat) (hi : i < S.length) :
    EvTo (fun k => lockstepref06_Make_l17 k (up2 S) noG (S.length : Int) (up2 S, bkI S i 0, ()) (i : Int) 0) (noG, (up2 S, bkI S (i + 1) 0, ())) := by
  have hle := h.le
  have hm := reach_le
  have h64 : (64 : Nat) ≤ reachBytes := by decide
  refine EvTo.range S (fun k m (a : List (List Int)) => lockstepref06_Make_l17 k (up2 S) noG (S.length : Int) (up2 S, a, ()) (i : Int) (m : Int)) (fun _ _ _ => (noG, (up2 S, bkI S (i + 1) 0, ()))) (fun m a => a = bkI S i m) (fun a ha => EvTo.succ ?_) (fun m hm1 a ha ih => EvTo.succ ?_) _ rfl
  · simp only [lockstepref06_Make_l17]
    exact EvTo.ifn (by simp) (EvTo.pure' (by rw [ha, bkI_succ]))
  · subst ha
    have hlen := gr_len h hm1
    simp only [lockstepref06_Make_l17]
    rw [Int.toNat_natCast, getD_up2, Int.toNat_natCast, wrapS hm1 (by omega)]
    refine EvTo.ifp (by simpa using hm1) (EvTo.ifp (by rw [up2_length]; omega) (EvTo.bind (has_up _ i (by omega)) ?_))
    by_cases hc : i ∈ S.getD m []
    · rw [decide_eq_true hc]
      have hrow : (bkI S i m).getD i [] = up (bkAt S i m i) := by
        simp only [bkI]
        exact getD_map_range _ _ _ _ hi
      have hpl : (bkAt S i m i).length ≤ 64 := by
        unfold bkAt; rw [if_neg (by omega), if_pos rfl]
        have := List.length_filter_le (fun a => decide (i ∈ S.getD a [])) (List.range m)
        rw [List.length_range] at this; omega
      rw [hrow]
      refine EvTo.ifp rfl (EvTo.ifp (by rw [bkI_length]; omega) (EvTo.ifp (by rw [List.length_append, up_length, most_eq]; simp; omega) (EvTo.ifp (by rw [bkI_length]; omega) (EvTo.ifp (by simp) (ih _ ?_)))))
      refine set_map_range _ _ _ _ _ ?_ (fun j hj => ?_)
      · unfold bkAt; rw [if_neg (by omega), if_pos rfl, if_neg (by omega), if_pos rfl, List.range_succ, List.filter_append, List.filter_cons_of_pos (by simpa using hc)]
        simp [up]
      · unfold bkAt
        by_cases h1 : j < i
        · rw [if_pos h1, if_pos h1]
        · rw [if_neg h1, if_neg h1, if_neg hj, if_neg hj]
    · rw [decide_eq_false hc]
      refine EvTo.ifn (by simp) (ih _ ?_)
      unfold bkI
      refine List.map_congr_left (fun j _ => ?_)
      congr 1
      unfold bkAt
      by_cases h1 : j < i
      · rw [if_pos h1, if_pos h1]
      · rw [if_neg h1, if_neg h1]
        by_cases h2 : j = i
        · subst h2
          rw [if_pos rfl, if_pos rfl, List.range_succ, List.filter_append, List.filter_cons_of_neg (by simpa using hc)]
          simp
        · rw [if_neg h2, if_neg h2]
theorem rmake_ok {S : List (List Nat)} (h : Gr S) : EvTo (fun k => lockstepref06_Make k (up2 S)) ((up2 S, up2 (pr S), ()), 0) := by
  have hle := h.le; have hpos := h.pos
  have hg := gr_good h
  simp only [goodb, Bool.and_eq_true, decide_eq_true_eq] at hg
  obtain ⟨r1, r2⟩ := gr_reach h
  unfold lockstepref06_Make
  have hul0 := up2_length S
  refine EvTo.ifp (by rw [beq_eq_false_iff_ne]; omega) (EvTo.ifn (by simp; omega) (EvTo.bind (rmake_rows (up2 S) (by rw [up2_length]; exact hle) r2) ?_))
  rw [hg.2.2]
  simp only [cond_true]
  have hul := up2_length S
  refine EvTo.ifp (by refine ⟨by omega, by omega, by omega⟩) ?_
  have e : List.replicate (((up2 S).length : Int)).toNat ([] : List Int) = bkI S 0 0 := by
    rw [up2_length, Int.toNat_natCast]
    apply List.ext_getElem
    · simp
    · intro j h1 h2; simp [bkI, bkAt]
  rw [e, up2_length]
  refine EvTo.bind (a := (noG, (up2 S, up2 (pr S), ()))) (EvTo.range S (fun k i (a : List (List Int)) => lockstepref06_Make_l14 k (up2 S) noG (S.length : Int) (up2 S, a, ()) (i : Int)) (fun _ _ _ => (noG, (up2 S, up2 (pr S), ()))) (fun i a => a = bkI S i 0) (fun a ha => EvTo.succ ?_) (fun i hi a ha ih => EvTo.succ ?_) _ rfl) EvTo.pure
  · simp only [lockstepref06_Make_l14]
    exact EvTo.ifn (by simp) (EvTo.pure' (by rw [ha, bkI_end]))
  · subst ha
    simp only [lockstepref06_Make_l14]
    rw [wrapS hi (by omega)]
    exact EvTo.ifp (by simpa using hi) (EvTo.bind (rmake_fill h i hi) (ih _ rfl))
theorem rmake_bad {s : List (List Int)} (hr : ∀ l ∈ s, l.length ≤ reachBytes) (h : goodb s = false) : EvTo (fun k => lockstepref06_Make k s) (noG, 5) := by
  unfold lockstepref06_Make
  by_cases h1 : (s.length : Int) = 0
  · exact EvTo.ifn (by rw [beq_eq_false_iff_ne]; omega) EvTo.pure
  · refine EvTo.ifp (by rw [beq_eq_false_iff_ne]; exact h1) ?_
    by_cases h2 : (s.length : Int) > 64
    · exact EvTo.ifp (by simpa using h2) EvTo.pure
    · refine EvTo.ifn (by simpa using h2) (EvTo.bind (rmake_rows s (by omega) hr) ?_)
      have e : s.all (rsg (s.length : Int) (-1)) = false := by
        simp only [goodb] at h
        rw [decide_eq_true (by omega), decide_eq_true (by omega), Bool.true_and, Bool.true_and] at h
        exact h
      rw [e]
      exact EvTo.pure
end Go.PrS
