/- What graph.Make, graph.May and the document's Make, Same, Has, Ints come to. No conditions beyond each theorem's own. -/
import Derived.Test.YtmbkpnhmeljcgaaS
import Derived.Test.YtmbkpnhmeljcgaaGa
set_option linter.unusedVariables false
set_option linter.unusedSimpArgs false
namespace Go.PrS
open Go Go.Ev Go.Proofs
theorem big_eq : big = 9223372036854775807 := rfl
/-- two lists held against one another -/
theorem eq_loop {α β : Type} [DecidableEq α] (a b : List α) (hl : a.length = b.length) (F : Nat → Nat → Option β) (yes no : β) (h0 : EvTo (fun k => F k a.length) yes)
    (hs : ∀ i (h : i < a.length) (h' : i < b.length), (a[i] ≠ b[i] → EvTo (fun k => F k i) no) ∧ (a[i] = b[i] → ∀ v, EvTo (fun k => F k (i + 1)) v → EvTo (fun k => F k i) v)) : EvTo (fun k => F k 0) (if a = b then yes else no) := by
  have key := EvTo.range0 a F (fun i r => if r = b.drop i then yes else no) (by
      rw [List.drop_of_length_le (by omega)]
      exact h0.to (by simp))
    (fun i h ih => by
      obtain ⟨h1, h2⟩ := hs i h (by omega)
      have e : b.drop i = b[i]'(by omega) :: b.drop (i + 1) := List.drop_eq_getElem_cons (by omega)
      rw [e]
      by_cases he : a[i] = b[i]'(by omega)
      · refine (h2 he _ ih).to ?_
        simp only [he, List.cons.injEq, true_and]
      · refine (h1 he).to ?_
        rw [if_neg (fun hh => he (List.cons.inj hh).1)])
  simpa using key
theorem ints_ok {a b : List Int} (ha : a.length ≤ reachBytes) : EvTo (fun k => lockstepref02_Ints k a b) (decide (a = b)) := by
  have hm := reach_le
  unfold lockstepref02_Ints
  by_cases hl : a.length = b.length
  · refine EvTo.ifn (by simp [hl]) ?_
    refine EvTo.bind (eq_loop a b hl (fun k i => lockstepref02_Ints_l4 k a b (i : Int)) (.inl ()) (.inr false) (EvTo.succ (by simp only [lockstepref02_Ints_l4]; exact EvTo.ifn (by simp) EvTo.pure)) (fun i h h' => ⟨fun hne => EvTo.succ ?_, fun he v hv => EvTo.succ ?_⟩)) ?_
    · simp only [lockstepref02_Ints_l4]
      rw [getI h, getI h']
      exact EvTo.ifp (by simpa using h) (EvTo.ifp (by omega) (EvTo.ifp (by omega) (EvTo.ifp (by simpa using hne) EvTo.pure)))
    · simp only [lockstepref02_Ints_l4]
      rw [getI h, getI h', wrapS h (by omega)]
      exact EvTo.ifp (by simpa using h) (EvTo.ifp (by omega) (EvTo.ifp (by omega) (EvTo.ifn (by simpa using he) hv)))
    · by_cases he : a = b
      · simp only [he, if_true, decide_true]; exact EvTo.pure
      · simp only [he, if_false, decide_false]; exact EvTo.pure
  · exact EvTo.ifp (by simp; omega) (EvTo.pure' (by rw [decide_eq_false]; intro e; exact hl (by rw [e])))
theorem equal_ok {a b : List Int} (ha : a.length ≤ reachBytes) : EvTo (fun k => slices_Equal_int_int k a b) (decide (a = b)) := by
  have hm := reach_le
  unfold slices_Equal_int_int
  by_cases hl : a.length = b.length
  · refine EvTo.ifn (by simp [hl]) ?_
    refine EvTo.bind (eq_loop a b hl (fun k i => slices_Equal_int_int_l4 k a b (a.length : Int) (i : Int)) (.inl ()) (.inr false) (EvTo.succ (by simp only [slices_Equal_int_int_l4]; exact EvTo.ifn (by simp) EvTo.pure)) (fun i h h' => ⟨fun hne => EvTo.succ ?_, fun he v hv => EvTo.succ ?_⟩)) ?_
    · simp only [slices_Equal_int_int_l4]
      rw [getI h, getI h']
      exact EvTo.ifp (by simpa using h) (EvTo.ifp (by omega) (EvTo.ifp (by omega) (EvTo.ifp (by simpa using hne) EvTo.pure)))
    · simp only [slices_Equal_int_int_l4]
      rw [getI h, getI h', wrapS h (by omega)]
      exact EvTo.ifp (by simpa using h) (EvTo.ifp (by omega) (EvTo.ifp (by omega) (EvTo.ifn (by simpa using he) hv)))
    · by_cases he : a = b
      · simp only [he, if_true, decide_true]; exact EvTo.pure
      · simp only [he, if_false, decide_false]; exact EvTo.pure
  · exact EvTo.ifp (by simp; omega) (EvTo.pure' (by rw [decide_eq_false]; intro e; exact hl (by rw [e])))
theorem equalFunc_ok {a b : List (List Int)} (ha : a.length ≤ reachBytes) (hr : ∀ l ∈ a, l.length ≤ reachBytes) : EvTo (fun k => slices_EqualFunc_int_int_int_int_slices_Equal_int_int k a b ()) (decide (a = b)) := by
  have hm := reach_le
  unfold slices_EqualFunc_int_int_int_int_slices_Equal_int_int
  by_cases hl : a.length = b.length
  · refine EvTo.ifn (by simp [hl]) ?_
    refine EvTo.bind (eq_loop a b hl (fun k i => slices_EqualFunc_int_int_int_int_slices_Equal_int_int_l4 k b () a (a.length : Int) (i : Int)) (.inl ()) (.inr false) (EvTo.succ (by simp only [slices_EqualFunc_int_int_int_int_slices_Equal_int_int_l4]; exact EvTo.ifn (by simp) EvTo.pure)) (fun i h h' => ⟨fun hne => EvTo.succ ?_, fun he v hv => EvTo.succ ?_⟩)) ?_
    · simp only [slices_EqualFunc_int_int_int_int_slices_Equal_int_int_l4]
      rw [getI h, getI h']
      exact EvTo.ifp (by simpa using h) (EvTo.ifp (by omega) (EvTo.ifp (by omega) (EvTo.bind (equal_ok (hr _ (List.getElem_mem h))) (EvTo.ifp (by simpa using hne) EvTo.pure))))
    · simp only [slices_EqualFunc_int_int_int_int_slices_Equal_int_int_l4]
      rw [getI h, getI h', wrapS h (by omega)]
      exact EvTo.ifp (by simpa using h) (EvTo.ifp (by omega) (EvTo.ifp (by omega) (EvTo.bind (equal_ok (hr _ (List.getElem_mem h))) (EvTo.ifn (by simpa using he) hv))))
    · by_cases he : a = b
      · simp only [he, if_true, decide_true]; exact EvTo.pure
      · simp only [he, if_false, decide_false]; exact EvTo.pure
  · exact EvTo.ifp (by simp; omega) (EvTo.pure' (by rw [decide_eq_false]; intro e; exact hl (by rw [e])))
/-! graph.Make -/
theorem rising_ok (l : List Int) (n : Int) (h : l.length ≤ reachBytes) : EvTo (fun k => graph_rising k l n) (rsg n (-1) l) := by
  have hm := reach_le
  unfold graph_rising
  have key := EvTo.range l (fun k i (a : Int) => graph_rising_l3 k n l (l.length : Int) a (i : Int)) (fun _ a r => cond (rsg n a r) (Sum.inl ()) (Sum.inr false)) (fun _ _ => True)
    (fun a _ => EvTo.succ (by simp only [graph_rising_l3]; exact EvTo.ifn (by simp) (EvTo.pure' (by simp [rsg]))))
    (fun i h a _ ih => EvTo.succ (by
      simp only [graph_rising_l3]
      rw [getI h, wrapS h (by omega)]
      refine EvTo.ifp (by simpa using h) (EvTo.ifp (by omega) ?_)
      simp only [rsg]
      by_cases h1 : l[i] ≤ a
      · simp only [if_pos h1, cond_false]; exact EvTo.ifn (by simpa using h1) EvTo.pure
      · simp only [if_neg h1]
        refine EvTo.ifp (by simpa using h1) ?_
        by_cases h2 : l[i] ≥ n
        · simp only [if_pos h2, cond_false]; exact EvTo.ifp (by simpa using h2) EvTo.pure
        · simp only [if_neg h2]; exact EvTo.ifn (by simpa using h2) (ih _ trivial))) (-1) trivial
  refine EvTo.bind key ?_
  cases rsg n (-1) l with
  | true => exact EvTo.pure
  | false => exact EvTo.pure
theorem make1_ok (l : List Int) (n : Int) (h : l.length ≤ reachBytes) : EvTo (fun k => graph_Make_1 k l n) (!rsg n (-1) l, n) := by
  unfold graph_Make_1
  exact EvTo.bind (rising_ok l n h) EvTo.pure
/-- slices.IndexFunc at a function that captures a number -/
theorem index_cap {α : Type} (l : List α) (g : Nat → α → Int → Option (Bool × Int)) (p : α → Bool) (d : α) (c : Int) (F : Nat → (Int × Unit) → Int → Option (Sum (Int × Unit) (Int × (Int × Unit)))) (hlen : l.length ≤ reachBytes)
    (hF : ∀ k i, F (k + 1) (c, ()) i = if (decide (i < (l.length : Int)) = true) then if ((0 ≤ i) ∧ (i < (l.length : Int))) then (g k (l.getD i.toNat d) c).bind fun r0 => if (r0.1 = true) then some (.inr (i, r0.2, ())) else F k (r0.2, ()) (IntKind.wrap .i64 (i + 1)) else none else some (.inl (c, ())))
    (hg : ∀ x ∈ l, EvTo (fun k => g k x c) (p x, c)) : EvTo (fun k => (F k (c, ()) 0).bind fun r0 => match r0 with | .inl r1 => some ((-1 : Int), r1) | .inr r1 => some r1) (match l.findIdx? p with | none => (-1, c, ()) | some j => ((j : Int), c, ())) := by
  have hm := reach_le
  have key : EvTo (fun k => F k (c, ()) 0) ((fun (i : Nat) (r : List α) => match r.findIdx? p with | none => Sum.inl (c, ()) | some j => Sum.inr (((i + j : Nat) : Int), c, ())) 0 l) := by
    refine EvTo.range0 l (fun k i => F k (c, ()) (i : Int)) (fun (i : Nat) (r : List α) => match r.findIdx? p with | none => Sum.inl (c, ()) | some j => Sum.inr (((i + j : Nat) : Int), c, ())) ?_ ?_
    · refine EvTo.succ ?_
      simp only [hF]
      exact EvTo.ifn (by simp) EvTo.pure
    · intro i h ih
      refine EvTo.succ ?_
      simp only [hF]
      refine EvTo.ifp (by simpa using h) (EvTo.ifp (by omega) ?_)
      rw [getI h]
      refine EvTo.bind (hg _ (List.getElem_mem h)) ?_
      cases hp : p l[i] with
      | true =>
        refine EvTo.ifp rfl (EvTo.pure' ?_)
        simp only [List.findIdx?_cons, hp, if_true]
        rfl
      | false =>
        refine EvTo.ifn (by simp) ?_
        rw [wrapS h (by omega)]
        refine ih.to ?_
        simp only [List.findIdx?_cons, hp, Bool.false_eq_true, if_false]
        cases (l.drop (i + 1)).findIdx? p with
        | none => rfl
        | some j => simp only [Option.map_some]; congr 2; omega
  refine EvTo.bind key ?_
  simp only
  cases l.findIdx? p with
  | none => exact EvTo.pure
  | some j => exact EvTo.pure' (by simp)
theorem found {α : Type} (l : List α) (p : α → Bool) (c : Int) : (decide ((match l.findIdx? p with | none => ((-1 : Int), c, ()) | some j => ((j : Int), c, ())).1 ≥ 0), (match l.findIdx? p with | none => ((-1 : Int), c, ()) | some j => ((j : Int), c, ())).2) = (l.any p, c, ()) := by
  cases hf : l.findIdx? p with
  | none =>
    rw [List.findIdx?_eq_none_iff] at hf
    have : l.any p = false := by
      rw [List.any_eq_false]
      intro x hx
      simp [hf x hx]
    simp [this]
  | some j =>
    rw [List.findIdx?_eq_some_iff_getElem] at hf
    obtain ⟨hj, hp, _⟩ := hf
    have : l.any p = true := List.any_eq_true.2 ⟨_, List.getElem_mem hj, hp⟩
    simp [this]
theorem contains_ok (s : List (List Int)) (n : Int) (hb : s.length ≤ reachBytes) (hr : ∀ l ∈ s, l.length ≤ reachBytes) : EvTo (fun k => slices_ContainsFunc_int_int_graph_Make_1 k s (n, ())) (s.any (fun l => !rsg n (-1) l), n, ()) := by
  unfold slices_ContainsFunc_int_int_graph_Make_1 slices_IndexFunc_int_int_graph_Make_1
  refine EvTo.bind (index_cap s graph_Make_1 (fun l => !rsg n (-1) l) [] n (fun k t i => slices_IndexFunc_int_int_graph_Make_1_l2 k s t (s.length : Int) i) hb (fun k i => by simp only [slices_IndexFunc_int_int_graph_Make_1_l2]) (fun x hx => make1_ok x n (hr x hx))) ?_
  exact EvTo.pure' (found s (fun l => !rsg n (-1) l) n)
theorem clone_ok (l : List Int) (h : l.length ≤ 1000000) (k : Nat) : slices_Clone_int_int k l = some l := by
  simp [slices_Clone_int_int, h]
theorem preds_row {S : List (List Nat)} (h : Gr S) (i : Nat) (hi : i < S.length) : EvTo (fun k => graph_preds_l6 k (i : Int) (up2 S) (S.length : Int) (i : Int) (up (S.getD i [])) ((S.getD i []).length : Int) (prI S i 0) 0) (prI S (i + 1) 0) := by
  have hle := h.le
  have hlen := gr_len h hi
  refine EvTo.range (up (S.getD i [])) (fun k m a => graph_preds_l6 k (i : Int) (up2 S) (S.length : Int) (i : Int) (up (S.getD i [])) ((S.getD i []).length : Int) a (m : Int)) (fun _ _ _ => prI S (i + 1) 0) (fun m a => a = prI S i m) (fun a ha => EvTo.succ ?_) (fun m hm a ha ih => EvTo.succ ?_) _ rfl
  · simp only [graph_preds_l6]
    rw [up_length] at ha ⊢
    exact EvTo.ifn (by simp) (EvTo.pure' (by rw [ha, prI_succ]))
  · subst ha
    rw [up_length] at hm
    simp only [graph_preds_l6]
    rw [Int.toNat_natCast, getD_up]
    have hy := (h.row i hi).2 _ (getD_mem (d := 0) hm)
    have hyn : (S.getD i []).getD m 0 ∉ (S.getD i []).take m := by
      intro hc
      have h3 : (S.getD i []).Nodup := gr_nodup h hi
      have h2 := take_getD _ m 0 hm
      have h4 : ((S.getD i []).take (m + 1)).Nodup := h3.sublist (List.take_sublist _ _)
      rw [h2, List.nodup_append] at h4
      exact h4.2.2 _ hc _ (List.mem_singleton.mpr rfl) rfl
    generalize hyv : (S.getD i []).getD m 0 = y at hy hyn
    rw [Int.toNat_natCast]
    have hrow : (prI S i m).getD y [] = up (prAt S i m y) := by
      simp only [prI]
      exact getD_map_range _ _ _ _ hy
    have hpl : (prAt S i m y).length ≤ 65 := by
      simp only [prAt, List.length_append]
      have := List.length_filter_le (fun i => decide (y ∈ S.getD i [])) (List.range i)
      simp only [List.length_range] at this
      split
      · rw [List.length_singleton]; omega
      · rw [List.length_nil]; omega
    have hpi : (prI S i m).length = S.length := by simp [prI]
    rw [hrow]
    refine EvTo.ifp (by simpa using hm) (EvTo.ifp (by rw [up_length]; omega) (EvTo.ifp (by omega) (EvTo.ifp (by rw [List.length_append, up_length, most_eq]; simp; omega) (EvTo.ifp (by omega) (EvTo.ifp (by simp) ?_)))))
    rw [wrapS hm (by omega)]
    refine ih _ ?_
    refine set_map_range _ _ _ _ _ ?_ (fun j hj => ?_)
    · simp only [prAt]
      rw [take_getD _ m 0 hm, hyv, if_neg hyn, if_pos (by simp)]
      simp [up]
    · simp only [prAt]
      rw [take_getD _ m 0 hm, hyv]
      congr 2
      simp [hj]
theorem preds_ok {S : List (List Nat)} (h : Gr S) : EvTo (fun k => graph_preds k (up2 S)) (up2 (pr S)) := by
  have hle := h.le
  unfold graph_preds
  refine EvTo.ifp (by rw [up2_length]; omega) ?_
  have e : List.replicate (((up2 S).length : Int)).toNat ([] : List Int) = prI S 0 0 := by
    simp only [up2_length, Int.toNat_natCast, prI]
    apply List.ext_getElem
    · simp
    · intro j h1 h2; simp [prAt]
  rw [e]
  refine EvTo.bind (EvTo.range (up2 S) (fun k i a => graph_preds_l3 k (up2 S) ((up2 S).length : Int) a (i : Int)) (fun _ _ _ => up2 (pr S)) (fun i a => a = prI S i 0) (fun a ha => EvTo.succ ?_) (fun i hi a ha ih => EvTo.succ ?_) _ rfl) EvTo.pure
  · simp only [graph_preds_l3]
    rw [up2_length] at ha
    exact EvTo.ifn (by simp) (EvTo.pure' (by rw [ha, preds_end]))
  · subst ha
    have hi' : i < S.length := by simpa using hi
    simp only [graph_preds_l3]
    rw [Int.toNat_natCast, getD_up2, up_length, wrapS hi' (by omega)]
    refine EvTo.ifp (by simpa using hi) (EvTo.ifp (by omega) (EvTo.bind ?_ (ih _ rfl)))
    have := preds_row h i hi'
    rw [up2_length]
    exact this
theorem gr_reach {S : List (List Nat)} (h : Gr S) : (up2 S).length ≤ reachBytes ∧ ∀ l ∈ up2 S, l.length ≤ reachBytes := by
  have hle := h.le
  have : (64 : Nat) ≤ reachBytes := by decide
  exact ⟨by rw [up2_length]; omega, fun l hl => by have := gr_rows h l hl; omega⟩
theorem make_ok {S : List (List Nat)} (h : Gr S) : EvTo (fun k => graph_Make k (up2 S)) ((up2 S, up2 (pr S), ()), 0) := by
  have hle := h.le; have hpos := h.pos
  have hg := gr_good h
  simp only [goodb, Bool.and_eq_true, decide_eq_true_eq, List.all_eq_true] at hg
  obtain ⟨r1, r2⟩ := gr_reach h
  unfold graph_Make
  refine EvTo.ifp (by simp; omega) (EvTo.ifp (by simp; omega) (EvTo.bind (contains_ok (up2 S) _ r1 r2) ?_))
  have e : (up2 S).any (fun l => !rsg ((up2 S).length : Int) (-1) l) = false := by
    rw [List.any_eq_false]
    intro l hl; rw [hg.2.2 l hl]; decide
  rw [e]
  refine EvTo.ifn (by simp) (EvTo.ifp (by simp only [up2_length]; omega) ?_)
  refine EvTo.bind (a := (up2 S, ([], [], ()))) ?_ (EvTo.bind (preds_ok h) EvTo.pure)
  refine EvTo.range (up2 S) (fun k i a => graph_Make_l6 k ([], [], ()) (up2 S) ((up2 S).length : Int) a (i : Int)) (fun _ _ _ => (up2 S, ([], [], ()))) (fun i a => a = up2 (S.take i)) (fun a ha => EvTo.succ ?_) (fun i hi a ha ih => EvTo.succ ?_) _ rfl
  · simp only [graph_Make_l6]
    refine EvTo.ifn (by simp) (EvTo.pure' ?_)
    rw [ha, List.take_of_length_le (by simp)]
  · subst ha
    have hi' : i < S.length := by simpa using hi
    have hlen := gr_len h hi'
    simp only [graph_Make_l6]
    rw [Int.toNat_natCast, getD_up2, wrapS hi' (by omega)]
    refine EvTo.ifp (by simpa using hi) (EvTo.ifp (by omega) ?_)
    simp only [clone_ok _ (show (up (S.getD i [])).length ≤ 1000000 by rw [up_length]; omega), Option.bind_some]
    refine EvTo.ifp (by rw [List.length_append, up2_length, List.length_take, most_eq]; simp; omega) (ih _ ?_)
    rw [take_getD S i [] hi']; simp [up2]
theorem make_bad {s : List (List Int)} (hb : s.length ≤ reachBytes) (hr : ∀ l ∈ s, l.length ≤ reachBytes) (h : goodb s = false) : EvTo (fun k => graph_Make k s) (([], [], ()), 5) := by
  unfold graph_Make
  by_cases h1 : (s.length : Int) < 1
  · exact EvTo.ifn (by simpa using h1) EvTo.pure
  · refine EvTo.ifp (by simpa using h1) ?_
    by_cases h2 : (s.length : Int) > 64
    · exact EvTo.ifn (by simpa using h2) EvTo.pure
    · refine EvTo.ifp (by simpa using h2) (EvTo.bind (contains_ok s _ hb hr) ?_)
      have e : s.any (fun l => !rsg (s.length : Int) (-1) l) = true := by
        simp only [goodb] at h
        rw [decide_eq_true (by omega), decide_eq_true (by omega), Bool.true_and, Bool.true_and] at h
        rw [← Bool.not_eq_false, List.any_eq_false]
        intro hc
        have : s.all (rsg (s.length : Int) (-1)) = true := List.all_eq_true.mpr (fun l hl => by have := hc l hl; simpa using this)
        rw [h] at this; cases this
      rw [e]; exact EvTo.ifp rfl EvTo.pure
theorem may_ok {S : List (List Nat)} (h : Gr S) (p : List (List Int)) : EvTo (fun k => graph_May k (up2 S, p, ())) (decide (up2 (pr S) = p)) := by
  unfold graph_May
  refine EvTo.bind (make_ok h) (EvTo.ifp rfl ?_)
  obtain ⟨r1, r2⟩ := gr_reach (gr_pr h)
  exact EvTo.bind (equalFunc_ok r1 r2) EvTo.pure
theorem may_bad {s : List (List Int)} (hb : s.length ≤ reachBytes) (hr : ∀ l ∈ s, l.length ≤ reachBytes) (h : goodb s = false) (p : List (List Int)) : EvTo (fun k => graph_May k (s, p, ())) false := by
  unfold graph_May
  exact EvTo.bind (make_bad hb hr h) (EvTo.ifn (by decide) EvTo.pure)
/-! the document's -/
theorem has_ok (a : List Int) (x : Int) (hb : a.length ≤ reachBytes) : EvTo (fun k => lockstepref06_Has k a x) (decide (x ∈ a)) := by
  have hm := reach_le
  unfold lockstepref06_Has
  have key := EvTo.range0 a (fun k i => lockstepref06_Has_l2 k a x (i : Int)) (fun _ r => if x ∈ r then Sum.inr true else Sum.inl ())
    (EvTo.succ (by simp only [lockstepref06_Has_l2]; exact EvTo.ifn (by simp) (EvTo.pure' (by simp))))
    (fun i h ih => EvTo.succ (by
      simp only [lockstepref06_Has_l2]
      rw [getI h, wrapS h (by omega)]
      refine EvTo.ifp (by simpa using h) (EvTo.ifp (by omega) ?_)
      by_cases he : a[i] = x
      · exact EvTo.ifp (by simpa using he) (EvTo.pure' (by rw [if_pos (by simp [he])]))
      · refine EvTo.ifn (by simpa using he) (ih.to ?_)
        have : (x ∈ a[i] :: a.drop (i + 1)) ↔ x ∈ a.drop (i + 1) := by
          rw [List.mem_cons]
          exact ⟨fun h => h.resolve_left (fun e => he e.symm), .inr⟩
        simp only [this]))
  refine EvTo.bind key ?_
  by_cases hx : x ∈ a
  · simp only [hx, if_true, decide_true]; exact EvTo.pure
  · simp only [hx, if_false, decide_false]; exact EvTo.pure
theorem has_up (l : List Nat) (x : Nat) (hb : l.length ≤ reachBytes) : EvTo (fun k => lockstepref06_Has k (up l) (x : Int)) (decide (x ∈ l)) := by
  refine (has_ok (up l) x (by rw [up_length]; exact hb)).to ?_
  have e : (x : Int) ∈ up l ↔ x ∈ l := by
    simp only [up, List.mem_map]
    constructor
    · rintro ⟨y, hy, e⟩; rw [show x = y by omega]; exact hy
    · intro h; exact ⟨x, h, rfl⟩
  by_cases h : x ∈ l
  · rw [decide_eq_true h, decide_eq_true (e.mpr h)]
  · rw [decide_eq_false h, decide_eq_false (fun hc => h (e.mp hc))]
theorem same_ok (a b c d : List (List Int)) (hb : a.length ≤ reachBytes) (hr : ∀ l ∈ a, l.length ≤ reachBytes) (hb' : b.length ≤ reachBytes) (hr' : ∀ l ∈ b, l.length ≤ reachBytes) : EvTo (fun k => lockstepref06_Same k (a, b, ()) (c, d, ())) (decide (a = c ∧ b = d)) := by
  have hm := reach_le
  unfold lockstepref06_Same
  by_cases h : a.length = c.length
  · refine EvTo.ifp (by simp [h]) ?_
    by_cases h' : b.length = d.length
    · refine EvTo.ifn (by simp [h']) ?_
      refine EvTo.bind (eq_loop a c h (fun k i => lockstepref06_Same_l4 k (a, b, ()) (c, d, ()) (i : Int)) (.inl ((a, b, ()), (c, d, ()))) (.inr (false, (a, b, ()), (c, d, ()))) (EvTo.succ (by simp only [lockstepref06_Same_l4]; exact EvTo.ifn (by simp) EvTo.pure)) (fun i h1 h2 => ⟨fun hne => EvTo.succ ?_, fun he v hv => EvTo.succ ?_⟩)) ?_
      · simp only [lockstepref06_Same_l4]
        rw [getI h1, getI h2]
        exact EvTo.ifp (by simpa using h1) (EvTo.ifp (by omega) (EvTo.ifp (by omega) (EvTo.bind (ints_ok (hr _ (List.getElem_mem h1))) (EvTo.ifp (by simpa using hne) EvTo.pure))))
      · simp only [lockstepref06_Same_l4]
        rw [getI h1, getI h2, wrapS h1 (by omega)]
        exact EvTo.ifp (by simpa using h1) (EvTo.ifp (by omega) (EvTo.ifp (by omega) (EvTo.bind (ints_ok (hr _ (List.getElem_mem h1))) (EvTo.ifn (by simpa using he) hv))))
      · by_cases he : a = c
        · simp only [he, if_true]
          refine EvTo.bind (eq_loop b d h' (fun k i => lockstepref06_Same_l9 k (c, b, ()) (c, d, ()) (i : Int)) (.inl ((c, b, ()), (c, d, ()))) (.inr (false, (c, b, ()), (c, d, ()))) (EvTo.succ (by simp only [lockstepref06_Same_l9]; exact EvTo.ifn (by simp) EvTo.pure)) (fun i h1 h2 => ⟨fun hne => EvTo.succ ?_, fun he v hv => EvTo.succ ?_⟩)) ?_
          · simp only [lockstepref06_Same_l9]
            rw [getI h1, getI h2]
            exact EvTo.ifp (by simpa using h1) (EvTo.ifp (by omega) (EvTo.ifp (by omega) (EvTo.bind (ints_ok (hr' _ (List.getElem_mem h1))) (EvTo.ifp (by simpa using hne) EvTo.pure))))
          · simp only [lockstepref06_Same_l9]
            rw [getI h1, getI h2, wrapS h1 (by omega)]
            exact EvTo.ifp (by simpa using h1) (EvTo.ifp (by omega) (EvTo.ifp (by omega) (EvTo.bind (ints_ok (hr' _ (List.getElem_mem h1))) (EvTo.ifn (by simpa using he) hv))))
          · by_cases he' : b = d
            · simp only [he', if_true, and_self, decide_true]; exact EvTo.pure
            · simp only [he', if_false, and_false, decide_false]; exact EvTo.pure
        · simp only [he, if_false, false_and, decide_false]; exact EvTo.pure
    · exact EvTo.ifp (by simp; omega) (EvTo.pure' (by rw [decide_eq_false]; rintro ⟨_, e⟩; exact h' (by rw [e])))
  · exact EvTo.ifn (by simp; omega) (EvTo.pure' (by rw [decide_eq_false]; rintro ⟨e, _⟩; exact h (by rw [e])))
end Go.PrS
