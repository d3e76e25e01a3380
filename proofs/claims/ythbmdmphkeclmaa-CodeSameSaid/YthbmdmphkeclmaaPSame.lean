/- What the functions that hold two things against one another come to: whether they are equal. No conditions beyond each theorem's own. -/
import Derived.Test.YthbmdmphkeclmaaPEncb
set_option linter.unusedVariables false
set_option linter.unusedSimpArgs false
namespace Go.PrS
open Go Go.Ev Go.Proofs
noncomputable instance decOp : DecidableEq L_api_Op := Classical.typeDecidableEq _
noncomputable instance decBlock : DecidableEq L_api_Block := Classical.typeDecidableEq _
noncomputable instance decFunc : DecidableEq L_api_Func := Classical.typeDecidableEq _
theorem awake_ok : EvTo (fun k => locksteplaw04_awake k) true := EvTo.from 40 (fun n => by kernel_rfl)
theorem eq_loop {α β : Type} [DecidableEq α] (a b : List α) (hl : a.length = b.length) (F : Nat → Nat → Option β) (yes no : β) (h0 : EvTo (fun k => F k a.length) yes)
    (hs : ∀ i (h : i < a.length) (h' : i < b.length), (a[i] ≠ b[i] → EvTo (fun k => F k i) no) ∧ (a[i] = b[i] → ∀ v, EvTo (fun k => F k (i + 1)) v → EvTo (fun k => F k i) v)) : EvTo (fun k => F k 0) (if a = b then yes else no) := by
  have key := EvTo.range0 a F (fun i r => if r = b.drop i then yes else no) (by
      rw [List.drop_of_length_le (by omega)]
      exact h0.to (by simp))
    (fun i h ih => by
      obtain ⟨h1, h2⟩ := hs i h (by omega)
      have e : b.drop i = b[i]'(by omega) :: b.drop (i + 1) := List.drop_eq_getElem_cons (by omega)
      rw [e]
      by_cases he : a[i] = b[i]'(by omega)
      · refine (h2 he _ ih).to ?_
        simp only [he, List.cons.injEq, true_and]
      · refine (h1 he).to ?_
        rw [if_neg (fun hh => he (List.cons.inj hh).1)])
  simpa using key
theorem bsame_ok {a b : List Int} (ha : a.length ≤ maxLen) : EvTo (fun k => lockstepref02_Same k a b) (decide (a = b)) := by
  have hm := maxLen_le
  unfold lockstepref02_Same
  by_cases hl : a.length = b.length
  · refine EvTo.ifn (by simp [hl]) ?_
    refine EvTo.bind (eq_loop a b hl (fun k i => lockstepref02_Same_l4 k a b (i : Int)) (.inl ()) (.inr false) (EvTo.succ (by simp only [lockstepref02_Same_l4]; exact EvTo.ifn (by simp) EvTo.pure)) (fun i h h' => ⟨fun hne => EvTo.succ ?_, fun he v hv => EvTo.succ ?_⟩)) ?_
    · simp only [lockstepref02_Same_l4]
      rw [getI h, getI h']
      exact EvTo.ifp (by simpa using h) (EvTo.ifp (by omega) (EvTo.ifp (by omega) (EvTo.ifp (by simpa using hne) EvTo.pure)))
    · simp only [lockstepref02_Same_l4]
      rw [getI h, getI h', wrapS h (by omega)]
      exact EvTo.ifp (by simpa using h) (EvTo.ifp (by omega) (EvTo.ifp (by omega) (EvTo.ifn (by simpa using he) hv)))
    · by_cases he : a = b
      · simp only [he, if_true, decide_true]; exact EvTo.pure
      · simp only [he, if_false, decide_false]; exact EvTo.pure
  · exact EvTo.ifp (by simp; omega) (EvTo.pure' (by rw [decide_eq_false]; intro e; exact hl (by rw [e])))
theorem ints_ok {a b : List Int} (ha : a.length ≤ reachBytes) : EvTo (fun k => lockstepref02_Ints k a b) (decide (a = b)) := by
  have hm := reach_le
  unfold lockstepref02_Ints
  by_cases hl : a.length = b.length
  · refine EvTo.ifn (by simp [hl]) ?_
    refine EvTo.bind (eq_loop a b hl (fun k i => lockstepref02_Ints_l4 k a b (i : Int)) (.inl ()) (.inr false) (EvTo.succ (by simp only [lockstepref02_Ints_l4]; exact EvTo.ifn (by simp) EvTo.pure)) (fun i h h' => ⟨fun hne => EvTo.succ ?_, fun he v hv => EvTo.succ ?_⟩)) ?_
    · simp only [lockstepref02_Ints_l4]
      rw [getI h, getI h']
      exact EvTo.ifp (by simpa using h) (EvTo.ifp (by omega) (EvTo.ifp (by omega) (EvTo.ifp (by simpa using hne) EvTo.pure)))
    · simp only [lockstepref02_Ints_l4]
      rw [getI h, getI h', wrapS h (by omega)]
      exact EvTo.ifp (by simpa using h) (EvTo.ifp (by omega) (EvTo.ifp (by omega) (EvTo.ifn (by simpa using he) hv)))
    · by_cases he : a = b
      · simp only [he, if_true, decide_true]; exact EvTo.pure
      · simp only [he, if_false, decide_false]; exact EvTo.pure
  · exact EvTo.ifp (by simp; omega) (EvTo.pure' (by rw [decide_eq_false]; intro e; exact hl (by rw [e])))
theorem equal_ok {a b : List Int} (ha : a.length ≤ reachBytes) : EvTo (fun k => slices_Equal_int_int k a b) (decide (a = b)) := by
  have hm := reach_le
  unfold slices_Equal_int_int
  by_cases hl : a.length = b.length
  · refine EvTo.ifn (by simp [hl]) ?_
    refine EvTo.bind (eq_loop a b hl (fun k i => slices_Equal_int_int_l4 k a b (a.length : Int) (i : Int)) (.inl ()) (.inr false) (EvTo.succ (by simp only [slices_Equal_int_int_l4]; exact EvTo.ifn (by simp) EvTo.pure)) (fun i h h' => ⟨fun hne => EvTo.succ ?_, fun he v hv => EvTo.succ ?_⟩)) ?_
    · simp only [slices_Equal_int_int_l4]
      rw [getI h, getI h']
      exact EvTo.ifp (by simpa using h) (EvTo.ifp (by omega) (EvTo.ifp (by omega) (EvTo.ifp (by simpa using hne) EvTo.pure)))
    · simp only [slices_Equal_int_int_l4]
      rw [getI h, getI h', wrapS h (by omega)]
      exact EvTo.ifp (by simpa using h) (EvTo.ifp (by omega) (EvTo.ifp (by omega) (EvTo.ifn (by simpa using he) hv)))
    · by_cases he : a = b
      · simp only [he, if_true, decide_true]; exact EvTo.pure
      · simp only [he, if_false, decide_false]; exact EvTo.pure
  · exact EvTo.ifp (by simp; omega) (EvTo.pure' (by rw [decide_eq_false]; intro e; exact hl (by rw [e])))
/-- slices.EqualFunc -/
theorem equalFunc_gen {α : Type} [DecidableEq α] (a b : List α) (ha : a.length ≤ reachBytes) (d : α) (g : Nat → α → α → Option Bool) (F : Nat → Int → Option (Sum Unit Bool))
    (hF : ∀ k i, F (k + 1) i = if (decide (i < (a.length : Int)) = true) then if ((0 ≤ i) ∧ (i < (a.length : Int))) then if ((0 ≤ i) ∧ (i < (b.length : Int))) then (g k (a.getD i.toNat d) (b.getD i.toNat d)).bind fun r0 => if ((!r0) = true) then some (.inr false) else F k (IntKind.wrap .i64 (i + 1)) else none else none else some (.inl ()))
    (hg : ∀ x ∈ a, ∀ y, EvTo (fun k => g k x y) (decide (x = y))) : EvTo (fun k => if (((a.length : Int) != (b.length : Int)) = true) then some false else (F k 0).bind fun r0 => match r0 with | .inl _ => some true | .inr r1 => some r1) (decide (a = b)) := by
  have hm := reach_le
  by_cases hl : a.length = b.length
  · refine EvTo.ifn (by simp [hl]) ?_
    refine EvTo.bind (eq_loop a b hl (fun k i => F k (i : Int)) (.inl ()) (.inr false) (EvTo.succ (by simp only [hF]; exact EvTo.ifn (by simp) EvTo.pure)) (fun i h h' => ⟨fun hne => EvTo.succ ?_, fun he v hv => EvTo.succ ?_⟩)) ?_
    · simp only [hF]
      rw [getI h, getI h']
      exact EvTo.ifp (by simpa using h) (EvTo.ifp (by omega) (EvTo.ifp (by omega) (EvTo.bind (hg _ (List.getElem_mem h) _) (EvTo.ifp (by simpa using hne) EvTo.pure))))
    · simp only [hF]
      rw [getI h, getI h', wrapS h (by omega)]
      exact EvTo.ifp (by simpa using h) (EvTo.ifp (by omega) (EvTo.ifp (by omega) (EvTo.bind (hg _ (List.getElem_mem h) _) (EvTo.ifn (by simpa using he) hv))))
    · by_cases he : a = b
      · simp only [he, if_true, decide_true]; exact EvTo.pure
      · simp only [he, if_false, decide_false]; exact EvTo.pure
  · exact EvTo.ifp (by simp; omega) (EvTo.pure' (by rw [decide_eq_false]; intro e; exact hl (by rw [e])))
/-- things put together are equal where their parts are -/
theorem phi_eq {p q : L_api_Phi} : p = q ↔ p.1 = q.1 ∧ p.2.1 = q.2.1 ∧ p.2.2.1 = q.2.2.1 ∧ p.2.2.2.1 = q.2.2.2.1 := by
  constructor
  · rintro rfl; exact ⟨rfl, rfl, rfl, rfl⟩
  · obtain ⟨a, b, c, d, ⟨⟩⟩ := p
    obtain ⟨a', b', c', d', ⟨⟩⟩ := q
    rintro ⟨h1, h2, h3, h4⟩
    simp only at h1 h2 h3 h4
    subst h1 h2 h3 h4; rfl
theorem op_eq {p q : L_api_Op} : p = q ↔ p.1 = q.1 ∧ p.2.1 = q.2.1 ∧ p.2.2.1 = q.2.2.1 ∧ p.2.2.2.1 = q.2.2.2.1 ∧ p.2.2.2.2.2.1 = q.2.2.2.2.2.1 ∧ p.2.2.2.2.1 = q.2.2.2.2.1 := by
  constructor
  · rintro rfl; exact ⟨rfl, rfl, rfl, rfl, rfl, rfl⟩
  · obtain ⟨a, b, c, d, e, f, ⟨⟩⟩ := p
    obtain ⟨a', b', c', d', e', f', ⟨⟩⟩ := q
    rintro ⟨h1, h2, h3, h4, h5, h6⟩
    simp only at h1 h2 h3 h4 h5 h6
    subst h1 h2 h3 h4 h5 h6; rfl
theorem block_eq {p q : L_api_Block} : p = q ↔ p.1 = q.1 ∧ p.2.1 = q.2.1 ∧ p.2.2.1.1 = q.2.2.1.1 ∧ p.2.2.1.2.1 = q.2.2.1.2.1 ∧ p.2.2.1.2.2.1 = q.2.2.1.2.2.1 := by
  constructor
  · rintro rfl; exact ⟨rfl, rfl, rfl, rfl, rfl⟩
  · obtain ⟨a, b, ⟨c, d, e, ⟨⟩⟩, ⟨⟩⟩ := p
    obtain ⟨a', b', ⟨c', d', e', ⟨⟩⟩, ⟨⟩⟩ := q
    rintro ⟨h1, h2, h3, h4, h5⟩
    simp only at h1 h2 h3 h4 h5
    subst h1 h2 h3 h4 h5; rfl
theorem func_eq {p q : L_api_Func} : p = q ↔ p.1 = q.1 ∧ p.2.1 = q.2.1 ∧ p.2.2.1 = q.2.2.1 := by
  constructor
  · rintro rfl; exact ⟨rfl, rfl, rfl⟩
  · obtain ⟨a, b, c, ⟨⟩⟩ := p
    obtain ⟨a', b', c', ⟨⟩⟩ := q
    rintro ⟨h1, h2, h3⟩
    simp only at h1 h2 h3
    subst h1 h2 h3; rfl
theorem samePhi_ok {p : L_api_Phi} (hp : OkPhi p) (q : L_api_Phi) : EvTo (fun k => code_Same_1 k p q) (decide (p = q)) := by
  unfold code_Same_1
  by_cases h1 : p.1 = q.1
  · refine EvTo.ifp (by simpa using h1) ?_
    by_cases h2 : p.2.1 = q.2.1
    · refine EvTo.ifp (by simpa using h2) (EvTo.bind (equal_ok hp.1) ?_)
      by_cases h3 : p.2.2.1 = q.2.2.1
      · refine EvTo.ifp (by simpa using h3) (EvTo.bind (equal_ok hp.2) (EvTo.pure' ?_))
        simp only [phi_eq, h1, h2, h3, true_and]
      · exact EvTo.ifn (by simpa using h3) (EvTo.pure' (by simp only [phi_eq, h3, false_and, and_false, decide_false]))
    · exact EvTo.ifn (by simpa using h2) (EvTo.pure' (by simp only [phi_eq, h2, false_and, and_false, decide_false]))
  · exact EvTo.ifn (by simpa using h1) (EvTo.pure' (by simp only [phi_eq, h1, false_and, and_false, decide_false]))
theorem sameOp_ok {p : L_api_Op} (hp : OkOp p) (q : L_api_Op) : EvTo (fun k => kind_Same k p q) (decide (p = q)) := by
  unfold kind_Same
  by_cases h1 : p.1 = q.1
  · refine EvTo.ifp (by simpa using h1) ?_
    by_cases h2 : p.2.1 = q.2.1
    · refine EvTo.ifp (by simpa using h2) ?_
      by_cases h3 : p.2.2.1 = q.2.2.1
      · refine EvTo.ifp (by simpa using h3) ?_
        by_cases h4 : p.2.2.2.1 = q.2.2.2.1
        · refine EvTo.ifp (by simpa using h4) ?_
          by_cases h5 : p.2.2.2.2.2.1 = q.2.2.2.2.2.1
          · refine EvTo.ifp (by simpa using h5) (EvTo.bind (equal_ok hp.1) (EvTo.pure' ?_))
            simp only [op_eq, h1, h2, h3, h4, h5, true_and]
          · exact EvTo.ifn (by simpa using h5) (EvTo.pure' (by simp only [op_eq, h5, false_and, and_false, decide_false]))
        · exact EvTo.ifn (by simpa using h4) (EvTo.pure' (by simp only [op_eq, h4, false_and, and_false, decide_false]))
      · exact EvTo.ifn (by simpa using h3) (EvTo.pure' (by simp only [op_eq, h3, false_and, and_false, decide_false]))
    · exact EvTo.ifn (by simpa using h2) (EvTo.pure' (by simp only [op_eq, h2, false_and, and_false, decide_false]))
  · exact EvTo.ifn (by simpa using h1) (EvTo.pure' (by simp only [op_eq, h1, false_and, and_false, decide_false]))
theorem samePhis_ok {b : L_api_Block} (hb : OkBlock b) (l : List L_api_Phi) : EvTo (fun k => slices_EqualFunc_api_Phi_api_Phi_api_Phi_api_Phi_code_Same_1 k b.1 l ()) (decide (b.1 = l)) := by
  have := equalFunc_gen b.1 l hb.1 (0, 0, [], [], ()) (fun k x y => code_Same_1 k x y) (fun k i => slices_EqualFunc_api_Phi_api_Phi_api_Phi_api_Phi_code_Same_1_l4 k l () b.1 (b.1.length : Int) i) (fun k i => rfl) (fun x hx y => samePhi_ok (hb.2.2.1 x hx) y)
  unfold slices_EqualFunc_api_Phi_api_Phi_api_Phi_api_Phi_code_Same_1
  exact this
theorem sameOps_ok {b : L_api_Block} (hb : OkBlock b) (l : List L_api_Op) : EvTo (fun k => slices_EqualFunc_api_Op_api_Op_api_Op_api_Op_kind_Same k b.2.1 l ()) (decide (b.2.1 = l)) := by
  have := equalFunc_gen b.2.1 l hb.2.1 (0, 0, 0, 0, [], 0, ()) (fun k x y => kind_Same k x y) (fun k i => slices_EqualFunc_api_Op_api_Op_api_Op_api_Op_kind_Same_l4 k l () b.2.1 (b.2.1.length : Int) i) (fun k i => rfl) (fun x hx y => sameOp_ok (hb.2.2.2.1 x hx) y)
  unfold slices_EqualFunc_api_Op_api_Op_api_Op_api_Op_kind_Same
  exact this
theorem sameBlock_ok {p : L_api_Block} (hp : OkBlock p) (q : L_api_Block) : EvTo (fun k => code_Same_2 k p q ()) (decide (p = q), ()) := by
  unfold code_Same_2
  have rest : ∀ (e : Bool), e = decide (p.2.2.1.1 = q.2.2.1.1 ∧ p.2.2.1.2.1 = q.2.2.1.2.1 ∧ p.2.2.1.2.2.1 = q.2.2.1.2.2.1) → ∀ r0 : Bool, EvTo (fun k => (slices_EqualFunc_api_Phi_api_Phi_api_Phi_api_Phi_code_Same_1 k p.1 q.1 ()).bind fun r1 => if (r1 = true) then (slices_EqualFunc_api_Op_api_Op_api_Op_api_Op_kind_Same k p.2.1 q.2.1 ()).bind fun r2 => if (r2 = true) then some (e, ()) else some (false, ()) else some (false, ())) (decide (p = q), ()) := by
    intro e he r0
    refine EvTo.bind (samePhis_ok hp q.1) ?_
    by_cases h1 : p.1 = q.1
    · refine EvTo.ifp (by simpa using h1) (EvTo.bind (sameOps_ok hp q.2.1) ?_)
      by_cases h2 : p.2.1 = q.2.1
      · refine EvTo.ifp (by simpa using h2) (EvTo.pure' ?_)
        simp only [he, block_eq, h1, h2, true_and]
      · exact EvTo.ifn (by simpa using h2) (EvTo.pure' (by simp only [block_eq, h2, false_and, and_false, decide_false]))
    · exact EvTo.ifn (by simpa using h1) (EvTo.pure' (by simp only [block_eq, h1, false_and, decide_false]))
  by_cases h1 : p.2.2.1.1 = q.2.2.1.1
  · refine EvTo.ifp (by simpa using h1) ?_
    by_cases h2 : p.2.2.1.2.1 = q.2.2.1.2.1
    · refine EvTo.ifp (by simpa using h2) (EvTo.bind (equal_ok hp.2.2.2.2) ?_)
      exact rest _ (by simp only [h1, h2, true_and]) true
    · exact EvTo.ifn (by simpa using h2) (rest false (by simp only [h2, false_and, and_false, decide_false]) true)
  · exact EvTo.ifn (by simpa using h1) (rest false (by simp only [h1, false_and, decide_false]) true)
theorem same_ok {p : L_api_Func} (hp : OkF p) (q : L_api_Func) : EvTo (fun k => code_Same k p q) (decide (p = q)) := by
  have hm := reach_le
  unfold code_Same
  by_cases h1 : p.2.1 = q.2.1
  · refine EvTo.ifp (by simpa using h1) (EvTo.bind (equal_ok hp.1) ?_)
    by_cases h2 : p.1 = q.1
    · refine EvTo.ifp (by simpa using h2) ?_
      have hb : EvTo (fun k => slices_EqualFunc_api_Block_api_Block_api_Block_api_Block_code_Same_2 k p.2.2.1 q.2.2.1 ((), ())) (decide (p.2.2.1 = q.2.2.1), (), ()) := by
        unfold slices_EqualFunc_api_Block_api_Block_api_Block_api_Block_code_Same_2
        by_cases hl : p.2.2.1.length = q.2.2.1.length
        · refine EvTo.ifn (by simp [hl]) ?_
          refine EvTo.bind (eq_loop p.2.2.1 q.2.2.1 hl (fun k i => slices_EqualFunc_api_Block_api_Block_api_Block_api_Block_code_Same_2_l4 k q.2.2.1 ((), ()) p.2.2.1 (p.2.2.1.length : Int) (i : Int)) (.inl ((), ())) (.inr (false, (), ())) (EvTo.succ (by simp only [slices_EqualFunc_api_Block_api_Block_api_Block_api_Block_code_Same_2_l4]; exact EvTo.ifn (by simp) EvTo.pure)) (fun i h h' => ⟨fun hne => EvTo.succ ?_, fun he v hv => EvTo.succ ?_⟩)) ?_
          · simp only [slices_EqualFunc_api_Block_api_Block_api_Block_api_Block_code_Same_2_l4]
            rw [getI h, getI h']
            exact EvTo.ifp (by simpa using h) (EvTo.ifp (by omega) (EvTo.ifp (by omega) (EvTo.bind (sameBlock_ok (hp.2.2 _ (List.getElem_mem h)) _) (EvTo.ifp (by simpa using hne) EvTo.pure))))
          · simp only [slices_EqualFunc_api_Block_api_Block_api_Block_api_Block_code_Same_2_l4]
            rw [getI h, getI h', wrapS h (by have := hp.2.1; omega)]
            exact EvTo.ifp (by simpa using h) (EvTo.ifp (by omega) (EvTo.ifp (by omega) (EvTo.bind (sameBlock_ok (hp.2.2 _ (List.getElem_mem h)) _) (EvTo.ifn (by simpa using he) hv))))
          · by_cases he : p.2.2.1 = q.2.2.1
            · simp only [he, if_true, decide_true]; exact EvTo.pure
            · simp only [he, if_false, decide_false]; exact EvTo.pure
        · exact EvTo.ifp (by simp; omega) (EvTo.pure' (by rw [decide_eq_false]; intro e; exact hl (by rw [e])))
      refine EvTo.bind hb (EvTo.pure' ?_)
      simp only [func_eq, h1, h2, true_and]
    · exact EvTo.ifn (by simpa using h2) (EvTo.pure' (by simp only [func_eq, h2, false_and, decide_false]))
  · exact EvTo.ifn (by simpa using h1) (EvTo.pure' (by simp only [func_eq, h1, false_and, and_false, decide_false]))
end Go.PrS
