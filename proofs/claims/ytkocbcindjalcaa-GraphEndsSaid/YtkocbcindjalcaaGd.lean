/- What graph.Of and the document's Of come to; the law GraphShapes as a plain function returns true for every input. No conditions beyond each theorem's own. -/
import Derived.Test.YtkocbcindjalcaaGc
set_option linter.unusedVariables false
set_option linter.unusedSimpArgs false
namespace Go.PrS
open Go Go.Ev Go.Proofs
theorem awake_ok : EvTo (fun k => locksteplaw06_awake k) true := EvTo.from 40 (fun n => by kernel_rfl)
def OkPhi (p : L_api_Phi) : Prop := p.2.2.1.length ≤ reachBytes ∧ p.2.2.2.1.length ≤ reachBytes
def OkOp (o : L_api_Op) : Prop := o.2.2.2.2.1.length ≤ reachBytes ∧ 0 ≤ o.2.2.2.2.2.1 ∧ o.2.2.2.2.2.1 < 18446744073709551616
def OkBlock (b : L_api_Block) : Prop := b.1.length ≤ reachBytes ∧ b.2.1.length ≤ reachBytes ∧ (∀ p ∈ b.1, OkPhi p) ∧ (∀ o ∈ b.2.1, OkOp o) ∧ b.2.2.1.2.2.1.length ≤ reachBytes
def OkF (f : L_api_Func) : Prop := f.1.length ≤ reachBytes ∧ f.2.2.1.length ≤ reachBytes ∧ ∀ b ∈ f.2.2.1, OkBlock b
theorem okF {f : L_api_Func} (h : OkD Y_api_Func f) : OkF f := by
  obtain ⟨⟨h1, _⟩, _, ⟨h2, h3⟩, _⟩ := h
  refine ⟨h1, h2, fun b hb => ?_⟩
  obtain ⟨⟨p1, p2⟩, ⟨o1, o2⟩, ⟨_, _, ⟨e1, _⟩, _⟩, _⟩ := h3 b hb
  refine ⟨p1, o1, fun p hp => ?_, fun o ho => ?_, e1⟩
  · obtain ⟨_, _, ⟨q1, _⟩, ⟨q2, _⟩, _⟩ := p2 p hp
    exact ⟨q1, q2⟩
  · obtain ⟨_, _, _, _, ⟨q1, _⟩, q2, _⟩ := o2 o ho
    have := wf_u64 q2
    exact ⟨q1, this.1, this.2⟩
theorem small_ok {f : L_api_Func} (hf : OkF f) : ∃ b, EvTo (fun k => lockstepref04_Small k f) b := by
  have hm := reach_le
  obtain ⟨f1, f2, f3⟩ := hf
  have kphi : ∀ (j : Nat), j < f.2.2.1.length → ∀ a, ∃ v : Int × L_api_Func, v.2 = f ∧ EvTo (fun k => lockstepref04_Small_l7 k f (j : Int) a 0) v := by
    intro j hj
    obtain ⟨b1, b2, b3, b4, b5⟩ := f3 _ (List.getElem_mem hj)
    refine EvTo.rangeE (f.2.2.1[j]).1 (fun k i (a : Int) => lockstepref04_Small_l7 k f (j : Int) a (i : Int)) (fun v => v.2 = f) (fun a => ⟨(a, f), rfl, EvTo.succ ?_⟩) (fun i h a ih => ?_)
    · simp only [lockstepref04_Small_l7]
      rw [getI hj]
      exact EvTo.ifp (by omega) (EvTo.ifn (by simp) EvTo.pure)
    · by_cases hs : a ≤ 20000
      · obtain ⟨v, v1, v2⟩ := ih (IntKind.wrap .i64 (IntKind.wrap .i64 (IntKind.wrap .i64 (a + 1) + ((f.2.2.1[j].1[i]).2.2.1.length : Int)) + ((f.2.2.1[j].1[i]).2.2.2.1.length : Int)))
        refine ⟨v, v1, EvTo.succ ?_⟩
        simp only [lockstepref04_Small_l7]
        rw [getI hj, getI h, wrapS h (by omega)]
        exact EvTo.ifp (by omega) (EvTo.ifp (by simpa using h) (EvTo.ifp (by simpa using hs) (EvTo.ifp (by omega) (EvTo.ifp (by omega) (EvTo.ifp (by omega) (EvTo.ifp (by omega) v2))))))
      · refine ⟨(a, f), rfl, EvTo.succ ?_⟩
        simp only [lockstepref04_Small_l7]
        rw [getI hj]
        exact EvTo.ifp (by omega) (EvTo.ifp (by simpa using h) (EvTo.ifn (by simpa using hs) EvTo.pure))
  have kop : ∀ (j : Nat), j < f.2.2.1.length → ∀ a, ∃ v : Int × L_api_Func, v.2 = f ∧ EvTo (fun k => lockstepref04_Small_l11 k f (j : Int) a 0) v := by
    intro j hj
    obtain ⟨b1, b2, b3, b4, b5⟩ := f3 _ (List.getElem_mem hj)
    refine EvTo.rangeE (f.2.2.1[j]).2.1 (fun k i (a : Int) => lockstepref04_Small_l11 k f (j : Int) a (i : Int)) (fun v => v.2 = f) (fun a => ⟨(a, f), rfl, EvTo.succ ?_⟩) (fun i h a ih => ?_)
    · simp only [lockstepref04_Small_l11]
      rw [getI hj]
      exact EvTo.ifp (by omega) (EvTo.ifn (by simp) EvTo.pure)
    · by_cases hs : a ≤ 20000
      · obtain ⟨v, v1, v2⟩ := ih (IntKind.wrap .i64 (IntKind.wrap .i64 (a + 1) + ((f.2.2.1[j].2.1[i]).2.2.2.2.1.length : Int)))
        refine ⟨v, v1, EvTo.succ ?_⟩
        simp only [lockstepref04_Small_l11]
        rw [getI hj, getI h, wrapS h (by omega)]
        exact EvTo.ifp (by omega) (EvTo.ifp (by simpa using h) (EvTo.ifp (by simpa using hs) (EvTo.ifp (by omega) (EvTo.ifp (by omega) v2))))
      · refine ⟨(a, f), rfl, EvTo.succ ?_⟩
        simp only [lockstepref04_Small_l11]
        rw [getI hj]
        exact EvTo.ifp (by omega) (EvTo.ifp (by simpa using h) (EvTo.ifn (by simpa using hs) EvTo.pure))
  have kb : ∀ a, ∃ v : Int × L_api_Func, v.2 = f ∧ EvTo (fun k => lockstepref04_Small_l3 k f a 0) v := by
    refine EvTo.rangeE f.2.2.1 (fun k i (a : Int) => lockstepref04_Small_l3 k f a (i : Int)) (fun v => v.2 = f) (fun a => ⟨(a, f), rfl, EvTo.succ ?_⟩) (fun i h a ih => ?_)
    · simp only [lockstepref04_Small_l3]
      exact EvTo.ifn (by simp) EvTo.pure
    · by_cases hs : a ≤ 20000
      · obtain ⟨⟨v, vf⟩, v1, v2⟩ := kphi i h (IntKind.wrap .i64 (IntKind.wrap .i64 (a + 1) + ((f.2.2.1[i]).2.2.1.2.2.1.length : Int)))
        simp only at v1
        subst v1
        obtain ⟨⟨u, uf⟩, u1, u2⟩ := kop i h v
        simp only at u1
        subst u1
        obtain ⟨w, w1, w2⟩ := ih u
        refine ⟨w, w1, EvTo.succ ?_⟩
        simp only [lockstepref04_Small_l3]
        rw [getI h, wrapS h (by omega)]
        exact EvTo.ifp (by simpa using h) (EvTo.ifp (by simpa using hs) (EvTo.ifp (by omega) (EvTo.bind v2 (EvTo.bind u2 w2))))
      · refine ⟨(a, f), rfl, EvTo.succ ?_⟩
        simp only [lockstepref04_Small_l3]
        exact EvTo.ifp (by simpa using h) (EvTo.ifn (by simpa using hs) EvTo.pure)
  obtain ⟨v, v1, v2⟩ := kb (f.1.length : Int)
  refine ⟨decide (v.1 ≤ 20000), ?_⟩
  unfold lockstepref04_Small
  exact EvTo.bind v2 EvTo.pure
theorem comp0 : Lib.compact ([] : List Int) = [] := by simp [Lib.compact, Lib.compactUpTo]
theorem comp1 (a : Int) : Lib.compact [a] = [a] := by simp [Lib.compact, Lib.compactUpTo, Lib.keeps]
theorem comp2 (a b : Int) (h : a ≠ b) : Lib.compact [a, b] = [a, b] := by
  have h' : b ≠ a := fun e => h e.symm
  simp [Lib.compact, Lib.compactUpTo, List.range_succ, Lib.keeps, h']
theorem comp2e (a : Int) : Lib.compact [a, a] = [a] := by simp [Lib.compact, Lib.compactUpTo, List.range_succ, Lib.keeps]
theorem row_of (n : Nat) (l : List Int) (m : List Nat) (hs : m.Pairwise (· < ·)) (hm : ∀ k : Nat, k ∈ m ↔ k < n ∧ 1 ≤ k ∧ (k : Int) ∈ l) : m = (List.range n).filter (fun k : Nat => decide (1 ≤ k) && decide ((k : Int) ∈ l)) := by
  refine sorted_ext _ _ hs (List.pairwise_lt_range.filter _) (fun x => ?_)
  rw [hm]; simp
theorem comp_row (n : Nat) (l : List Int) (h2 : l.length ≤ 2) (hin : ∀ x ∈ l, 1 ≤ x ∧ x < (n : Int)) : Lib.compact (isort l) = up ((List.range n).filter (fun k : Nat => decide (1 ≤ k) && decide ((k : Int) ∈ l))) := by
  match l, h2 with
  | [], _ =>
    rw [← row_of n [] [] .nil (fun k => by simp)]
    exact comp0
  | [a], _ =>
    have ha := hin a (by simp)
    obtain ⟨x, rfl⟩ : ∃ x : Nat, a = (x : Int) := ⟨a.toNat, by omega⟩
    rw [← row_of n [(x : Int)] [x] (by simp) (fun k => by simp; omega)]
    exact comp1 _
  | [a, b], _ =>
    have ha := hin a (by simp)
    have hb := hin b (by simp)
    obtain ⟨x, rfl⟩ : ∃ x : Nat, a = (x : Int) := ⟨a.toNat, by omega⟩
    obtain ⟨y, rfl⟩ : ∃ y : Nat, b = (y : Int) := ⟨b.toNat, by omega⟩
    by_cases h1 : x = y
    · subst h1
      rw [← row_of n [(x : Int), (x : Int)] [x] (by simp) (fun k => by simp; omega)]
      simp only [isort, ins, Int.le_refl, if_true]
      exact comp2e _
    · by_cases h3 : x < y
      · rw [← row_of n [(x : Int), (y : Int)] [x, y] (by simp; exact h3) (fun k => by simp; omega)]
        simp only [isort, ins]
        rw [if_pos (by omega)]
        exact comp2 _ _ (by omega)
      · rw [← row_of n [(x : Int), (y : Int)] [y, x] (by simp; omega) (fun k => by simp; omega)]
        simp only [isort, ins]
        rw [if_neg (by omega)]
        exact comp2 _ _ (by omega)
/-! a function's graph -/
def goesS (k : Int) : Int := if k = 0 then 0 else if k = 3 then 0 else if k = 1 then 1 else if k = 2 then 2 else -1
def toS (b : L_api_Block) : List Int := b.2.2.1.2.2.1
def kindS (b : L_api_Block) : Int := b.2.2.1.1
def okB (n : Int) (b : L_api_Block) : Bool := decide (goesS (kindS b) = ((toS b).length : Int)) && (toS b).all (fun k => decide (1 ≤ k) && decide (k < n))
def rowB (n : Nat) (b : L_api_Block) : List Nat := (List.range n).filter (fun k : Nat => decide (1 ≤ k) && decide ((k : Int) ∈ toS b))
def rowsB (f : L_api_Func) : List (List Nat) := f.2.2.1.map (rowB f.2.2.1.length)
def goodF (f : L_api_Func) : Bool := decide (1 ≤ f.2.2.1.length ∧ f.2.2.1.length ≤ 64) && f.2.2.1.all (okB (f.2.2.1.length : Int))
def ofS (f : L_api_Func) : L_api_Graph × Int := cond (goodF f) ((up2 (rowsB f), up2 (pr (rowsB f)), ()), 0) (noG, 5)
theorem goes_ok (k : Int) : EvTo (fun n => graph_goes n k) (goesS k) := by
  unfold graph_goes goesS
  by_cases h0 : k = 0
  · rw [if_pos h0]; exact EvTo.ifp (by simpa using h0) EvTo.pure
  · rw [if_neg h0]
    refine EvTo.ifn (by simpa using h0) ?_
    by_cases h3 : k = 3
    · rw [if_pos h3]; exact EvTo.ifp (by simpa using h3) EvTo.pure
    · rw [if_neg h3]
      refine EvTo.ifn (by simpa using h3) ?_
      by_cases h1 : k = 1
      · rw [if_pos h1]; exact EvTo.ifp (by simpa using h1) EvTo.pure
      · rw [if_neg h1]
        refine EvTo.ifn (by simpa using h1) ?_
        by_cases h2 : k = 2
        · rw [if_pos h2]; exact EvTo.ifp (by simpa using h2) EvTo.pure
        · rw [if_neg h2]; exact EvTo.ifn (by simpa using h2) EvTo.pure
theorem goesS_len {b : L_api_Block} (h : goesS (kindS b) = ((toS b).length : Int)) : (toS b).length ≤ 2 := by
  unfold goesS at h
  split at h
  · omega
  · split at h
    · omega
    · split at h
      · omega
      · split at h <;> omega
theorem of1_ok (x n : Int) : EvTo (fun k => graph_Of_1 k x n) (!(decide (1 ≤ x) && decide (x < n)), n) := by
  unfold graph_Of_1
  by_cases h : x < 1
  · refine EvTo.ifn (by simpa using h) (EvTo.pure' ?_)
    have : ¬ (1 ≤ x) := by omega
    simp [this]
  · refine EvTo.ifp (by simpa using h) (EvTo.pure' ?_)
    have h1 : 1 ≤ x := by omega
    by_cases h2 : x < n
    · have : ¬ (x ≥ n) := by omega
      simp [h1, h2]
    · have : x ≥ n := by omega
      simp [this]
theorem containsOf_ok (l : List Int) (n : Int) (hb : l.length ≤ reachBytes) : EvTo (fun k => slices_ContainsFunc_int_int_graph_Of_1 k l (n, ())) (!(l.all (fun k => decide (1 ≤ k) && decide (k < n))), n, ()) := by
  unfold slices_ContainsFunc_int_int_graph_Of_1 slices_IndexFunc_int_int_graph_Of_1
  refine EvTo.bind (index_cap l graph_Of_1 (fun x => !(decide (1 ≤ x) && decide (x < n))) 0 n (fun k t i => slices_IndexFunc_int_int_graph_Of_1_l2 k l t (l.length : Int) i) hb (fun k i => by simp only [slices_IndexFunc_int_int_graph_Of_1_l2]) (fun x hx => of1_ok x n)) ?_
  refine EvTo.pure' ((found l (fun x => !(decide (1 ≤ x) && decide (x < n))) n).trans ?_)
  rw [List.not_all_eq_any_not]
theorem sorted_ok (l : List Int) (h : l.length ≤ 2) : EvTo (fun k => slices_Sorted_int_slices_Values_int_int_1 k l) (isort l, l) := by
  unfold slices_Sorted_int_slices_Values_int_int_1 slices_Collect_int_slices_Values_int_int_1 slices_Sort_int_int slices_Sort_int_int_f32
  refine EvTo.bind (a := (l, l)) (EvTo.ifp (by omega) EvTo.pure) ?_
  by_cases h0 : 0 < l.length
  · exact EvTo.ifp h0 (EvTo.ifp h0 (EvTo.bind (EvTo.ifp (by simp only; omega) EvTo.pure) EvTo.pure))
  · have : l = [] := List.eq_nil_of_length_eq_zero (by omega)
    subst this
    exact EvTo.ifn h0 (EvTo.bind (EvTo.ifp rfl EvTo.pure) EvTo.pure)
theorem ofRows_ok {f : L_api_Func} (hf : OkF f) (hn : f.2.2.1.length ≤ 64) : EvTo (fun k => graph_Of_l6 k noG (f.2.2.1.length : Int) f.2.2.1 (f.2.2.1.length : Int) [] 0) (cond (f.2.2.1.all (okB (f.2.2.1.length : Int))) (Sum.inl (up2 (rowsB f), noG, (f.2.2.1.length : Int))) (Sum.inr (5, noG, (f.2.2.1.length : Int)))) := by
  have hm := reach_le
  obtain ⟨f1, f2, f3⟩ := hf
  generalize hB : f.2.2.1 = B at f2 f3 hn
  have e : up2 (rowsB f) = up2 (B.map (rowB B.length)) := by unfold rowsB; rw [hB]
  rw [e]
  refine EvTo.range B (fun k i a => graph_Of_l6 k noG (B.length : Int) B (B.length : Int) a (i : Int)) (fun i a r => cond (r.all (okB (B.length : Int))) (Sum.inl (up2 (B.map (rowB B.length)), noG, (B.length : Int))) (Sum.inr (5, noG, (B.length : Int)))) (fun i a => a = up2 ((B.take i).map (rowB B.length))) (fun a ha => EvTo.succ ?_) (fun i hi a ha ih => EvTo.succ ?_) _ rfl
  · simp only [graph_Of_l6]
    refine EvTo.ifn (by simp) (EvTo.pure' ?_)
    rw [ha, List.take_of_length_le (Nat.le_refl _)]; rfl
  · subst ha
    obtain ⟨b1, b2, b3, b4, b5⟩ := f3 _ (List.getElem_mem hi)
    simp only [graph_Of_l6]
    rw [getI hi, wrapS hi (by omega)]
    refine EvTo.ifp (by simpa using hi) (EvTo.ifp (by omega) (EvTo.bind (goes_ok _) ?_))
    rw [List.all_cons]
    by_cases h1 : goesS (kindS B[i]) = ((toS B[i]).length : Int)
    · refine EvTo.ifp (by simpa [kindS, toS] using h1) (EvTo.bind (containsOf_ok _ _ b5) ?_)
      have hl := goesS_len h1
      cases h2 : (toS B[i]).all (fun k => decide (1 ≤ k) && decide (k < (B.length : Int))) with
      | false =>
        refine EvTo.ifp (by simpa [toS] using h2) (EvTo.pure' ?_)
        have : okB (B.length : Int) B[i] = false := by unfold okB; rw [h2, Bool.and_false]
        rw [this]; rfl
      | true =>
        have hok : okB (B.length : Int) B[i] = true := by unfold okB; rw [h2, Bool.and_true, decide_eq_true h1]
        rw [hok, Bool.true_and]
        refine EvTo.ifn (by simpa [toS] using h2) ?_
        refine EvTo.bind (a := toS B[i]) (by unfold slices_Values_int_int; exact EvTo.pure) (EvTo.bind (sorted_ok _ hl) ?_)
        have hin : ∀ x ∈ toS B[i], 1 ≤ x ∧ x < (B.length : Int) := fun x hx => by
          have := List.all_eq_true.1 h2 x hx
          simpa using this
        have hc := comp_row B.length (toS B[i]) hl hin
        refine EvTo.bind (a := up (rowB B.length B[i])) ?_ ?_
        · unfold slices_Compact_int_int
          refine EvTo.ifp (by show (isort (toS B[i])).length ≤ _; rw [isort_length]; omega) (EvTo.pure' hc)
        · refine EvTo.ifp (by rw [List.length_append, up2_length, List.length_map, List.length_take, most_eq]; simp; omega) (ih _ ?_)
          rw [List.take_succ_eq_append_getElem hi, List.map_append]
          simp [up2]
    · refine EvTo.ifn (by simpa [kindS, toS] using h1) (EvTo.pure' ?_)
      have : okB (B.length : Int) B[i] = false := by unfold okB; rw [decide_eq_false h1, Bool.false_and]
      rw [this]; rfl
theorem rows_gr {f : L_api_Func} (h1 : 1 ≤ f.2.2.1.length) (h2 : f.2.2.1.length ≤ 64) : Gr (rowsB f) := by
  refine ⟨by simp [rowsB]; omega, by simp [rowsB]; omega, fun i hi => ?_⟩
  have hi' : i < f.2.2.1.length := by simpa [rowsB] using hi
  have e : (rowsB f).getD i [] = rowB f.2.2.1.length f.2.2.1[i] := by
    unfold rowsB
    rw [List.getD_eq_getElem?_getD, List.getElem?_map, List.getElem?_eq_getElem hi']; rfl
  rw [e]
  refine ⟨List.pairwise_lt_range.filter _, fun y hy => ?_⟩
  have := (List.mem_filter.1 hy).1
  simpa [rowsB] using this
theorem of_ok {f : L_api_Func} (hf : OkF f) : EvTo (fun k => graph_Of k f) (ofS f) := by
  unfold graph_Of
  by_cases h1 : (f.2.2.1.length : Int) > 64
  · refine EvTo.ifp (by simpa using h1) (EvTo.pure' ?_)
    have : goodF f = false := by unfold goodF; rw [decide_eq_false (by omega), Bool.false_and]
    unfold ofS; rw [this]; rfl
  · refine EvTo.ifn (by simpa using h1) (EvTo.bind (ofRows_ok hf (by omega)) ?_)
    cases h2 : f.2.2.1.all (okB (f.2.2.1.length : Int)) with
    | false =>
      have : goodF f = false := by unfold goodF; rw [h2, Bool.and_false]
      unfold ofS; rw [this]
      exact EvTo.pure
    | true =>
      simp only [cond_true]
      by_cases h3 : 1 ≤ f.2.2.1.length
      · have : goodF f = true := by unfold goodF; rw [h2, Bool.and_true, decide_eq_true (by omega)]
        unfold ofS; rw [this]
        exact EvTo.bind (make_ok (rows_gr h3 (by omega))) EvTo.pure
      · have : goodF f = false := by unfold goodF; rw [decide_eq_false (by omega), Bool.false_and]
        unfold ofS; rw [this]
        have hl : f.2.2.1 = [] := List.eq_nil_of_length_eq_zero (by omega)
        have e : up2 (rowsB f) = [] := by unfold rowsB; rw [hl]; rfl
        rw [e]
        exact EvTo.bind (make_bad (by simp) (fun l hl => by simp at hl) (by decide)) EvTo.pure
/-! the document's -/
theorem rof_check {f : L_api_Func} (i : Int) (e : L_api_End) (n : Int) (t5 : List (List Int)) (hl : e.2.2.1.length ≤ reachBytes) : EvTo (fun k => lockstepref06_Of_l13 k f noG n i e t5 [] 0) (cond (e.2.2.1.all (fun k => decide (1 ≤ k) && decide (k < n))) (Sum.inl (t5, [], f, noG, e)) (Sum.inr (5, f, noG, e))) := by
  have hm := reach_le
  refine EvTo.range0 e.2.2.1 (fun k j => lockstepref06_Of_l13 k f noG n i e t5 [] (j : Int)) (fun _ r => cond (r.all (fun k => decide (1 ≤ k) && decide (k < n))) (Sum.inl (t5, [], f, noG, e)) (Sum.inr (5, f, noG, e))) (EvTo.succ ?_) (fun j hj ih => EvTo.succ ?_)
  · simp only [lockstepref06_Of_l13]
    exact EvTo.ifn (by simp) EvTo.pure
  · simp only [lockstepref06_Of_l13]
    rw [getI hj, wrapS hj (by omega)]
    refine EvTo.ifp (by simpa using hj) (EvTo.ifp (by omega) ?_)
    rw [List.all_cons]
    by_cases h1 : e.2.2.1[j] ≤ 0
    · refine EvTo.ifn (by simpa using h1) (EvTo.pure' ?_)
      rw [decide_eq_false (show ¬ (1 ≤ e.2.2.1[j]) by omega)]; rfl
    · refine EvTo.ifp (by simpa using h1) (EvTo.ifp (by omega) ?_)
      by_cases h2 : e.2.2.1[j] ≥ n
      · refine EvTo.ifp (by simpa using h2) (EvTo.pure' ?_)
        rw [decide_eq_false (show ¬ (e.2.2.1[j] < n) by omega), Bool.and_false]; rfl
      · refine EvTo.ifn (by simpa using h2) ?_
        rw [decide_eq_true (show e.2.2.1[j] < n by omega), decide_eq_true (show 1 ≤ e.2.2.1[j] by omega)]
        exact ih
theorem rof_row {f : L_api_Func} (i : Int) (e : L_api_End) (n : Nat) (h1 : 1 ≤ n) (hn : n ≤ 64) (t5 : List (List Int)) (hl : e.2.2.1.length ≤ reachBytes) :
    EvTo (fun k => lockstepref06_Of_l18 k f noG (n : Int) i e t5 [] 1) (t5, up ((List.range n).filter (fun k : Nat => decide (1 ≤ k) && decide ((k : Int) ∈ e.2.2.1))), f, noG, e) := by
  have key := EvTo.range (List.range (n - 1)) (fun k j a => lockstepref06_Of_l18 k f noG (n : Int) i e t5 a ((j + 1 : Nat) : Int)) (fun _ _ _ => (t5, up ((List.range n).filter (fun k : Nat => decide (1 ≤ k) && decide ((k : Int) ∈ e.2.2.1))), f, noG, e))
    (fun j a => a = up ((List.range (j + 1)).filter (fun k : Nat => decide (1 ≤ k) && decide ((k : Int) ∈ e.2.2.1)))) (fun a ha => EvTo.succ ?_) (fun j hj a ha ih => EvTo.succ ?_) [] (by simp)
  · exact key
  · simp only [lockstepref06_Of_l18]
    rw [List.length_range] at ha ⊢
    refine EvTo.ifn (by simp; omega) (EvTo.pure' ?_)
    rw [ha, show n - 1 + 1 = n by omega]
  · subst ha
    rw [List.length_range] at hj
    simp only [lockstepref06_Of_l18]
    rw [wrapS (show j + 1 < n by omega) (by omega)]
    refine EvTo.ifp (by simp; omega) (EvTo.bind (has_ok _ _ hl) ?_)
    by_cases h : ((j + 1 : Nat) : Int) ∈ e.2.2.1
    · rw [decide_eq_true h]
      refine EvTo.ifp rfl (EvTo.ifp ?_ (ih _ ?_))
      · rw [List.length_append, up_length, most_eq]
        have := List.length_filter_le (fun k : Nat => decide (1 ≤ k) && decide ((k : Int) ∈ e.2.2.1)) (List.range (j + 1))
        rw [List.length_range] at this
        simp; omega
      · rw [List.range_succ (n := j + 1), List.filter_append, List.filter_cons_of_pos (by simp; exact h), up_append]
        simp [up]
    · rw [decide_eq_false h]
      refine EvTo.ifn (by simp) (ih _ ?_)
      rw [List.range_succ (n := j + 1), List.filter_append, List.filter_cons_of_neg (by simp; exact h)]
      simp
theorem rofRows_ok {f : L_api_Func} (hf : OkF f) (hn : f.2.2.1.length ≤ 64) : EvTo (fun k => lockstepref06_Of_l6 k f noG (f.2.2.1.length : Int) [] 0) (cond (f.2.2.1.all (okB (f.2.2.1.length : Int))) (Sum.inl (up2 (rowsB f), f, noG)) (Sum.inr (5, f, noG))) := by
  have hm := reach_le
  obtain ⟨f1, f2, f3⟩ := hf
  refine EvTo.range f.2.2.1 (fun k i a => lockstepref06_Of_l6 k f noG (f.2.2.1.length : Int) a (i : Int)) (fun i a r => cond (r.all (okB (f.2.2.1.length : Int))) (Sum.inl (up2 (rowsB f), f, noG)) (Sum.inr (5, f, noG))) (fun i a => a = up2 ((f.2.2.1.take i).map (rowB f.2.2.1.length))) (fun a ha => EvTo.succ ?_) (fun i hi a ha ih => EvTo.succ ?_) _ rfl
  · simp only [lockstepref06_Of_l6]
    refine EvTo.ifn (by simp) (EvTo.pure' ?_)
    rw [ha, List.take_of_length_le (Nat.le_refl _)]; rfl
  · subst ha
    obtain ⟨b1, b2, b3, b4, b5⟩ := f3 _ (List.getElem_mem hi)
    simp only [lockstepref06_Of_l6]
    rw [getI hi, wrapS hi (by omega)]
    rw [List.all_cons]
    refine EvTo.ifp (by simpa using hi) (EvTo.ifp (by omega) ?_)
    have hbad : goesS (kindS f.2.2.1[i]) ≠ ((toS f.2.2.1[i]).length : Int) → okB (f.2.2.1.length : Int) f.2.2.1[i] = false := fun h => by unfold okB; rw [decide_eq_false h, Bool.false_and]
    by_cases k0 : kindS f.2.2.1[i] < 0
    · refine EvTo.ifn (by simpa [kindS] using k0) (EvTo.pure' ?_)
      rw [hbad]
      · rfl
      · unfold goesS
        rw [if_neg (by omega), if_neg (by omega), if_neg (by omega), if_neg (by omega)]; omega
    · refine EvTo.ifp (by simpa [kindS] using k0) ?_
      by_cases k3 : kindS f.2.2.1[i] > 3
      · refine EvTo.ifn (by simpa [kindS] using k3) (EvTo.pure' ?_)
        rw [hbad]
        · rfl
        · unfold goesS
          rw [if_neg (by omega), if_neg (by omega), if_neg (by omega), if_neg (by omega)]; omega
      · refine EvTo.ifp (by simpa [kindS] using k3) (EvTo.ifp (by unfold kindS at k0 k3; omega) ?_)
        have hg : ([0, 1, 2, 0] : List Int).getD (kindS f.2.2.1[i]).toNat 0 = goesS (kindS f.2.2.1[i]) := by
          generalize kindS f.2.2.1[i] = x at k0 k3
          have : x = 0 ∨ x = 1 ∨ x = 2 ∨ x = 3 := by omega
          rcases this with rfl | rfl | rfl | rfl <;> rfl
        by_cases h1 : goesS (kindS f.2.2.1[i]) = ((toS f.2.2.1[i]).length : Int)
        · refine EvTo.ifn (by rw [← hg] at h1; simpa [kindS, toS] using h1.symm) (EvTo.bind (rof_check (i : Int) f.2.2.1[i].2.2.1 _ _ b5) ?_)
          cases h2 : (toS f.2.2.1[i]).all (fun k => decide (1 ≤ k) && decide (k < (f.2.2.1.length : Int))) with
          | false =>
            have hok : okB (f.2.2.1.length : Int) f.2.2.1[i] = false := by unfold okB; rw [h2, Bool.and_false]
            rw [hok]
            unfold toS at h2
            rw [h2]
            exact EvTo.pure
          | true =>
            have hok : okB (f.2.2.1.length : Int) f.2.2.1[i] = true := by unfold okB; rw [h2, Bool.and_true, decide_eq_true h1]
            rw [hok, Bool.true_and]
            unfold toS at h2
            rw [h2]
            simp only [cond_true]
            refine EvTo.bind (rof_row (i : Int) f.2.2.1[i].2.2.1 f.2.2.1.length (by omega) hn _ b5) ?_
            refine EvTo.ifp (by rw [List.length_append, up2_length, List.length_map, List.length_take, most_eq]; simp; omega) (ih _ ?_)
            rw [List.take_succ_eq_append_getElem hi, List.map_append]
            simp only [up2, List.map_append, List.map_cons, List.map_nil]
            rfl
        · refine EvTo.ifp (by rw [← hg] at h1; simp only [bne_iff_ne, ne_eq]; exact fun e => h1 e.symm) (EvTo.pure' ?_)
          rw [hbad h1]; rfl
theorem rof_ok {f : L_api_Func} (hf : OkF f) : EvTo (fun k => lockstepref06_Of k f) (ofS f) := by
  unfold lockstepref06_Of
  by_cases h0 : (f.2.2.1.length : Int) = 0
  · refine EvTo.ifn (by rw [beq_eq_false_iff_ne]; omega) (EvTo.pure' ?_)
    have : goodF f = false := by unfold goodF; rw [decide_eq_false (by omega), Bool.false_and]
    unfold ofS; rw [this]; rfl
  · refine EvTo.ifp (by rw [beq_eq_false_iff_ne]; exact h0) ?_
    by_cases h1 : (f.2.2.1.length : Int) > 64
    · refine EvTo.ifp (by simpa using h1) (EvTo.pure' ?_)
      have : goodF f = false := by unfold goodF; rw [decide_eq_false (by omega), Bool.false_and]
      unfold ofS; rw [this]; rfl
    · refine EvTo.ifn (by simpa using h1) (EvTo.bind (rofRows_ok hf (by omega)) ?_)
      cases h2 : f.2.2.1.all (okB (f.2.2.1.length : Int)) with
      | false =>
        have : goodF f = false := by unfold goodF; rw [h2, Bool.and_false]
        unfold ofS; rw [this]
        exact EvTo.pure
      | true =>
        have : goodF f = true := by unfold goodF; rw [h2, Bool.and_true, decide_eq_true (by omega)]
        unfold ofS; rw [this]
        exact EvTo.bind (rmake_ok (rows_gr (by omega) (by omega))) EvTo.pure
theorem graphShapes_pure (f : L_api_Func) (h : OkD Y_api_Func f) : ∃ n, locksteplaw06_GraphShapes n f = some true := by
  have hf := okF h
  refine EvTo.at ?_
  unfold locksteplaw06_GraphShapes
  refine EvTo.bind awake_ok (EvTo.ifn (by simp) ?_)
  obtain ⟨b, hs⟩ := small_ok hf
  refine EvTo.bind hs ?_
  cases b with
  | false => exact EvTo.ifp rfl EvTo.pure
  | true =>
    refine EvTo.ifn (by simp) (EvTo.bind (of_ok hf) (EvTo.bind (rof_ok hf) ?_))
    unfold ofS
    cases hg : goodF f with
    | false =>
      refine EvTo.bind (same_ok [] [] [] [] (by simp) (by simp) (by simp) (by simp)) ?_
      exact EvTo.ifp (by simp) (EvTo.ifp (by simp) (EvTo.ifn (by simp) EvTo.pure))
    | true =>
      have hg' := hg
      unfold goodF at hg'
      simp only [Bool.and_eq_true, decide_eq_true_eq] at hg'
      have hgr := rows_gr hg'.1.1 hg'.1.2
      obtain ⟨r1, r2⟩ := gr_reach hgr
      obtain ⟨r3, r4⟩ := gr_reach (gr_pr hgr)
      refine EvTo.bind (same_ok _ _ _ _ r1 r2 r3 r4) ?_
      exact EvTo.ifp (by simp) (EvTo.ifp (by simp) (EvTo.ifp (by simp) (EvTo.bind (may_ok hgr _) (EvTo.pure' (by simp)))))
end Go.PrS
