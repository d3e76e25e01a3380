/- The law GraphEnds as a plain function returns true for every input. No conditions beyond each theorem's own. -/
import Derived.Test.YtkocbcindjalcaaGd
set_option linter.unusedVariables false
set_option linter.unusedSimpArgs false
namespace Go.PrS
open Go Go.Ev Go.Proofs
/-- what a block goes on at -/
def aimE (n : Nat) (x : Int) : Int := 1 + x % (max 1 (n - 1) : Nat)
theorem aimE_le {n : Nat} (h : 2 ≤ n) (x : Int) : 1 ≤ aimE n x ∧ aimE n x < (n : Int) := by
  unfold aimE
  have e : (max 1 (n - 1) : Nat) = n - 1 := by omega
  rw [e]
  have := Int.emod_nonneg x (show ((n - 1 : Nat) : Int) ≠ 0 by omega)
  have := Int.emod_lt_of_pos x (show (0 : Int) < ((n - 1 : Nat) : Int) by omega)
  omega
def endE (ends : List Int) (to : List (Int × (Int × Unit))) (i : Nat) : L_api_End :=
  let k := ends.getD i 0 % 4
  let p := to.getD (i % to.length) (0, 0, ())
  if ends.length = 1 then (0, 0, [], ()) else if k = 1 then (k, 0, [aimE ends.length p.1], ()) else if k = 2 then (k, 0, [aimE ends.length p.1, aimE ends.length p.2.1], ()) else (k, 0, [], ())
def blkE (ends : List Int) (to : List (Int × (Int × Unit))) (i : Nat) : L_api_Block := ([], [((i : Int), 0, 0, 0, [], 0, ())], endE ends to i, ())
def funE (ends : List Int) (to : List (Int × (Int × Unit))) : L_api_Func := ([], 0, (List.range ends.length).map (blkE ends to), ())
theorem build_ok (ends : List Int) (to : List (Int × (Int × Unit))) (h1 : 1 ≤ ends.length) (h2 : ends.length ≤ 64) (h3 : 0 < to.length) (he : ∀ x ∈ ends, 0 ≤ x ∧ x < 256) (ht : ∀ p ∈ to, (0 ≤ p.1 ∧ p.1 < 256) ∧ (0 ≤ p.2.1 ∧ p.2.1 < 256)) :
    EvTo (fun k => locksteplaw06_GraphEnds_l8 k ends to (ends.length : Int) ([], 0, [], ()) 0) (funE ends to) := by
  have hm := reach_le
  refine EvTo.range ends (fun k i (a : List L_api_Block) => locksteplaw06_GraphEnds_l8 k ends to (ends.length : Int) ([], 0, a, ()) (i : Int)) (fun _ _ _ => funE ends to) (fun i a => a = (List.range i).map (blkE ends to)) (fun a ha => EvTo.succ ?_) (fun i hi a ha ih => EvTo.succ ?_) _ rfl
  · simp only [locksteplaw06_GraphEnds_l8]
    exact EvTo.ifn (by simp) (EvTo.pure' (by rw [ha]; rfl))
  · have hal : a.length = i := by rw [ha]; simp
    have hnext : EvTo (fun k => locksteplaw06_GraphEnds_l8 k ends to (ends.length : Int) ([], 0, a ++ [blkE ends to i], ()) ((i + 1 : Nat) : Int)) (funE ends to) := ih _ (by rw [ha, List.range_succ, List.map_append]; rfl)
    have hmod : Int.tmod (i : Int) (to.length : Int) = ((i % to.length : Nat) : Int) := by
      rw [Int.tmod_eq_emod_of_nonneg (by omega)]; rfl
    have hml : i % to.length < to.length := Nat.mod_lt _ h3
    have hei := he _ (List.getElem_mem hi)
    have hpi := ht _ (List.getElem_mem hml)
    have hmx : max 1 (IntKind.wrap .i64 ((ends.length : Int) - 1)) = ((max 1 (ends.length - 1) : Nat) : Int) := by
      rw [wrap_i64 (by omega) (by omega)]; omega
    have hmp : (0 : Int) < ((max 1 (ends.length - 1) : Nat) : Int) := by omega
    have hk : Int.tmod (IntKind.wrap .i64 ends[i]) 4 = ends[i] % 4 := by
      rw [wrap_i64 (by omega) (by omega), Int.tmod_eq_emod_of_nonneg hei.1]
    have haim : ∀ x : Int, 0 ≤ x → x < 256 → IntKind.wrap .i64 (1 + Int.tmod (IntKind.wrap .i64 x) ((max 1 (ends.length - 1) : Nat) : Int)) = aimE ends.length x := fun x hx hx' => by
      rw [wrap_i64 (x := x) (by omega) (by omega), Int.tmod_eq_emod_of_nonneg hx]
      have := Int.emod_nonneg x (show ((max 1 (ends.length - 1) : Nat) : Int) ≠ 0 by omega)
      have := Int.emod_lt_of_pos x hmp
      rw [wrap_i64 (by omega) (by omega)]; rfl
    have hmost : ∀ b : L_api_Block, (a ++ [b]).length ≤ Ev.most := fun b => by
      rw [List.length_append, hal, most_eq]; simp; omega
    have hb : blkE ends to i = ([], [((i : Int), 0, 0, 0, [], 0, ())], endE ends to i, ()) := rfl
    rw [hb] at hnext
    unfold endE at hnext
    rw [getN hi, getN hml] at hnext
    simp only [locksteplaw06_GraphEnds_l8]
    rw [getI hi, wrapS hi (by omega), hmod, hmx, Int.toNat_natCast, getN hml, hk, haim _ hpi.1.1 hpi.1.2, haim _ hpi.2.1 hpi.2.2]
    refine EvTo.ifp (by simpa using hi) (EvTo.ifp (by omega) (EvTo.ifp (by omega) (EvTo.ifp (by omega) (EvTo.ifp (by omega) (EvTo.ifp (by omega) (EvTo.ifp (by omega) (EvTo.ifp (by omega) ?_)))))))
    by_cases hn : ends.length = 1
    · simp only [hn, if_true] at hnext ⊢
      exact EvTo.ifp (by simp) (EvTo.ifp (hmost _) hnext)
    · simp only [hn, if_false] at hnext
      refine EvTo.ifn (by simp; omega) ?_
      by_cases k1 : ends[i] % 4 = 1
      · simp only [k1, if_true] at hnext ⊢
        exact EvTo.ifp (by simp) (EvTo.ifn (by simp) (EvTo.ifp (hmost _) hnext))
      · simp only [k1, if_false] at hnext
        refine EvTo.ifn (by simpa using k1) ?_
        by_cases k2 : ends[i] % 4 = 2
        · simp only [k2, if_true] at hnext ⊢
          exact EvTo.ifp (by simp) (EvTo.ifp (hmost _) hnext)
        · simp only [k2, if_false] at hnext
          exact EvTo.ifn (by simpa using k2) (EvTo.ifp (hmost _) hnext)
theorem endE_ok (ends : List Int) (h1 : 1 ≤ ends.length) (to : List (Int × (Int × Unit))) (i : Nat) : goesS (endE ends to i).1 = ((endE ends to i).2.2.1.length : Int) ∧ (endE ends to i).2.2.1.length ≤ 2 ∧ ∀ x ∈ (endE ends to i).2.2.1, 1 ≤ x ∧ x < (ends.length : Int) := by
  unfold endE
  generalize ends.getD i 0 = e
  generalize to.getD (i % to.length) (0, 0, ()) = p
  by_cases hn : ends.length = 1
  · simp only [hn, if_true]
    exact ⟨rfl, by simp, by simp⟩
  · have h2 : 2 ≤ ends.length := by omega
    simp only [hn, if_false]
    by_cases k1 : e % 4 = 1
    · simp only [k1, if_true]
      refine ⟨rfl, by simp, fun x hx => ?_⟩
      obtain rfl := List.mem_singleton.1 hx
      exact aimE_le h2 p.1
    · simp only [k1, if_false]
      by_cases k2 : e % 4 = 2
      · simp only [k2, if_true]
        refine ⟨rfl, by simp, fun x hx => ?_⟩
        rcases List.mem_cons.1 hx with rfl | hx
        · exact aimE_le h2 p.1
        · obtain rfl := List.mem_singleton.1 hx
          exact aimE_le h2 p.2.1
      · simp only [k2, if_false]
        refine ⟨?_, by simp, by simp⟩
        have : e % 4 = 0 ∨ e % 4 = 3 := by omega
        rcases this with h | h <;> rw [h] <;> rfl
theorem funE_len (ends : List Int) (to : List (Int × (Int × Unit))) : (funE ends to).2.2.1.length = ends.length := by simp [funE]
theorem funE_at (ends : List Int) (to : List (Int × (Int × Unit))) {i : Nat} (h : i < (funE ends to).2.2.1.length) : (funE ends to).2.2.1[i] = blkE ends to i := by simp [funE]
theorem funE_ok (ends : List Int) (to : List (Int × (Int × Unit))) (h1 : 1 ≤ ends.length) (h2 : ends.length ≤ 64) : OkF (funE ends to) := by
  have h64 : (64 : Nat) ≤ reachBytes := by decide
  have h0 : (2 : Nat) ≤ reachBytes := by decide
  refine ⟨by simp [funE], by rw [funE_len]; omega, fun b hb => ?_⟩
  obtain ⟨i, hi, rfl⟩ := List.getElem_of_mem hb
  rw [funE_at]
  refine ⟨by simp [blkE], by simp [blkE]; omega, by simp [blkE], fun o ho => ?_, ?_⟩
  · obtain rfl : o = ((i : Int), 0, 0, 0, [], 0, ()) := by simpa [blkE] using ho
    exact ⟨by simp, by simp, by simp⟩
  · have := (endE_ok ends h1 to i).2.1
    show (endE ends to i).2.2.1.length ≤ _
    omega
theorem funE_good (ends : List Int) (to : List (Int × (Int × Unit))) (h1 : 1 ≤ ends.length) (h2 : ends.length ≤ 64) : goodF (funE ends to) = true := by
  unfold goodF
  rw [funE_len, decide_eq_true (by omega), Bool.true_and, List.all_eq_true]
  intro b hb
  obtain ⟨i, hi, rfl⟩ := List.getElem_of_mem hb
  rw [funE_at]
  obtain ⟨e1, _, e2⟩ := endE_ok ends h1 to i
  have e3 : ∀ x ∈ toS (blkE ends to i), 1 ≤ x ∧ x < (ends.length : Int) := e2
  have e4 : goesS (kindS (blkE ends to i)) = ((toS (blkE ends to i)).length : Int) := e1
  unfold okB
  rw [decide_eq_true e4, Bool.true_and, List.all_eq_true]
  intro x hx
  have := e3 x hx
  simp; omega
theorem rows_at (ends : List Int) (to : List (Int × (Int × Unit))) {i : Nat} (h : i < ends.length) : (rowsB (funE ends to)).getD i [] = rowB ends.length (blkE ends to i) := by
  unfold rowsB
  have hi : i < (funE ends to).2.2.1.length := by rw [funE_len]; exact h
  rw [List.getD_eq_getElem?_getD, List.getElem?_map, List.getElem?_eq_getElem hi, funE_at, funE_len]; rfl
theorem mem_row (ends : List Int) (to : List (Int × (Int × Unit))) (h1 : 1 ≤ ends.length) (i k : Nat) (hk : k < ends.length) : k ∈ rowB ends.length (blkE ends to i) ↔ (k : Int) ∈ (endE ends to i).2.2.1 := by
  unfold rowB
  rw [List.mem_filter, List.mem_range]
  have e : toS (blkE ends to i) = (endE ends to i).2.2.1 := rfl
  rw [e]
  constructor
  · rintro ⟨_, h⟩
    simp only [Bool.and_eq_true, decide_eq_true_eq] at h
    exact h.2
  · intro h
    have := (endE_ok ends h1 to i).2.2 _ h
    refine ⟨hk, ?_⟩
    simp only [Bool.and_eq_true, decide_eq_true_eq]
    exact ⟨by omega, h⟩
theorem wf_pair {p : Int × (Int × Unit)} (h : OkD (.pair (.int .u8) (.pair (.int .u8) .unit)) p) : (0 ≤ p.1 ∧ p.1 < 256) ∧ (0 ≤ p.2.1 ∧ p.2.1 < 256) := ⟨wf_u8 h.1, wf_u8 h.2.1⟩
theorem graphEnds_pure (ends : List Int) (to : List (Int × (Int × Unit))) (h : OkD (.list (.int .u8)) ends) (ht : OkD (.list (.pair (.int .u8) (.pair (.int .u8) .unit))) to) : ∃ n, locksteplaw06_GraphEnds n ends to = some true := by
  refine EvTo.at ?_
  unfold locksteplaw06_GraphEnds
  refine EvTo.bind awake_ok (EvTo.ifn (by simp) ?_)
  by_cases h1 : (ends.length : Int) < 1
  · exact EvTo.ifn (by simpa using h1) EvTo.pure
  · refine EvTo.ifp (by simpa using h1) ?_
    by_cases h2 : (ends.length : Int) > 64
    · exact EvTo.ifn (by simpa using h2) EvTo.pure
    · refine EvTo.ifp (by simpa using h2) ?_
      by_cases h3 : (to.length : Int) = 0
      · exact EvTo.ifp (by rw [beq_iff_eq]; exact h3) EvTo.pure
      · have h1' : 1 ≤ ends.length := by omega
        have h2' : ends.length ≤ 64 := by omega
        have h64 : (64 : Nat) ≤ reachBytes := by decide
        refine EvTo.ifn (by rw [beq_iff_eq]; exact h3) (EvTo.bind (build_ok ends to h1' h2' (by omega) (fun x hx => wf_u8 (h.2 x hx)) (fun p hp => wf_pair (ht.2 p hp))) (EvTo.bind (of_ok (funE_ok ends to h1' h2')) ?_))
        unfold ofS
        rw [funE_good ends to h1' h2']
        have hl := funE_len ends to
        have hgr := rows_gr (f := funE ends to) (by omega) (by omega)
        have hrl : (rowsB (funE ends to)).length = ends.length := by simp [rowsB, hl]
        have hpl : (up2 (pr (rowsB (funE ends to)))).length = ends.length := by rw [up2_length, pr_length, hrl]
        have hz : (up2 (pr (rowsB (funE ends to)))).getD 0 [] = [] := by
          rw [getD_up2]
          have : (pr (rowsB (funE ends to))).getD 0 [] = [] := by
            refine List.eq_nil_iff_forall_not_mem.2 fun x hx => ?_
            rw [mem_pr (by omega)] at hx
            have hx1 : x < ends.length := by rw [← hrl]; exact hx.1
            have hx2 := hx.2
            rw [rows_at ends to hx1, mem_row ends to h1' x 0 (by omega)] at hx2
            have := (endE_ok ends h1' to x).2.2 _ hx2
            omega
          rw [this]; rfl
        simp only [cond_true]
        refine EvTo.ifp (by simp) (EvTo.ifp (by rw [hpl]; omega) (EvTo.ifn (by rw [hz]; simp) (EvTo.bind (a := Sum.inl (funE ends to, (up2 (rowsB (funE ends to)), up2 (pr (rowsB (funE ends to))), ()))) ?_ EvTo.pure)))
        have hT : ∀ i (hi : i < ends.length), (((funE ends to).2.2.1.getD i ([], [], (0, 0, [], ()), ())).2.2.1.2.2.1 : List Int) = (endE ends to i).2.2.1 := fun i hi => by
          rw [getN (by rw [hl]; exact hi), funE_at]; rfl
        generalize hG : ((up2 (rowsB (funE ends to)), up2 (pr (rowsB (funE ends to))), ()) : L_api_Graph) = g
        have hg1 : g.1 = up2 (rowsB (funE ends to)) := by rw [← hG]
        have hg2 : g.2.1 = up2 (pr (rowsB (funE ends to))) := by rw [← hG]
        have inner : ∀ i, i < ends.length → EvTo (fun k => locksteplaw06_GraphEnds_l27 k (ends.length : Int) (funE ends to) g (i : Int) 0) (Sum.inl (funE ends to, g)) := by
          intro i hi
          refine EvTo.range0 ends (fun k j => locksteplaw06_GraphEnds_l27 k (ends.length : Int) (funE ends to) g (i : Int) (j : Int)) (fun _ _ => Sum.inl (funE ends to, g)) (EvTo.succ ?_) (fun j hj ih => EvTo.succ ?_)
          · simp only [locksteplaw06_GraphEnds_l27]
            exact EvTo.ifn (by simp) EvTo.pure
          · simp only [locksteplaw06_GraphEnds_l27]
            have hto := (endE_ok ends h1' to i).2.1
            have hrow := gr_len hgr (i := i) (by omega)
            have hprow := gr_len (gr_pr hgr) (i := j) (by rw [pr_length]; omega)
            rw [Int.toNat_natCast, Int.toNat_natCast, hT i hi, hg1, hg2, getD_up2, getD_up2, wrapS hj (by omega)]
            refine EvTo.ifp (by simpa using hj) (EvTo.ifp (by omega) (EvTo.bind (has_ok _ _ (by omega)) (EvTo.ifp (by rw [up2_length]; omega) (EvTo.bind (has_up _ j (by omega)) ?_))))
            have e1 : decide (j ∈ (rowsB (funE ends to)).getD i []) = decide ((j : Int) ∈ (endE ends to i).2.2.1) := by
              rw [rows_at ends to hi]
              exact decide_eq_decide.2 (mem_row ends to h1' i j hj)
            have e2 : decide (i ∈ (pr (rowsB (funE ends to))).getD j []) = decide ((j : Int) ∈ (endE ends to i).2.2.1) := by
              refine decide_eq_decide.2 ?_
              rw [mem_pr (by omega), rows_at ends to hi, mem_row ends to h1' i j hj]
              exact ⟨fun h => h.2, fun h => ⟨by omega, h⟩⟩
            rw [e1]
            refine EvTo.ifp (by simp) (EvTo.ifp (by omega) (EvTo.bind (has_up _ i (by omega)) ?_))
            rw [e2]
            exact EvTo.ifn (by simp) ih
        refine EvTo.range0 ends (fun k i => locksteplaw06_GraphEnds_l24 k (ends.length : Int) (funE ends to) g (i : Int)) (fun _ _ => Sum.inl (funE ends to, g)) (EvTo.succ ?_) (fun i hi ih => EvTo.succ ?_)
        · simp only [locksteplaw06_GraphEnds_l24]
          exact EvTo.ifn (by simp) EvTo.pure
        · simp only [locksteplaw06_GraphEnds_l24]
          rw [wrapS hi (by omega)]
          exact EvTo.ifp (by simpa using hi) (EvTo.bind (inner i hi) ih)
end Go.PrS
