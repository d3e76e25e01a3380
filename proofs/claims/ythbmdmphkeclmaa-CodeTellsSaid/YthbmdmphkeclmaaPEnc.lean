/- What code.May and code.Encode come to; and a function's bytes, read. No conditions beyond each theorem's own. -/
import Derived.Test.YthbmdmphkeclmaaPDec
set_option linter.unusedVariables false
set_option linter.unusedSimpArgs false
namespace Go.PrS
open Go Go.Ev Go.Proofs
/-! which functions may be told -/
def listB (l : List Int) : Bool := decide (l.length ≤ 64) && l.all inN
def phiB (p : L_api_Phi) : Bool := (inN p.1 && inN p.2.1) && (listB p.2.2.1 && listB p.2.2.2.1)
def opB (o : L_api_Op) : Bool := (inN o.1 && (inN o.2.1 && (inN o.2.2.1 && inN o.2.2.2.1))) && listB o.2.2.2.2.1
def endB (e : L_api_End) : Bool := (inN e.1 && inN e.2.1) && listB e.2.2.1
def blockB (b : L_api_Block) : Bool := b.1.all phiB && (b.2.1.all opB && endB b.2.2.1)
def mayF (f : L_api_Func) : Bool := decide (1 ≤ f.2.2.1.length ∧ f.2.2.1.length ≤ 64 ∧ f.1.length ≤ 16 ∧ sizeF f ≤ 512) && (inN f.2.1 && (f.1.all inN && f.2.2.1.all blockB))
/-- all lists are such as there are -/
def OkPhi (p : L_api_Phi) : Prop := p.2.2.1.length ≤ reachBytes ∧ p.2.2.2.1.length ≤ reachBytes
def OkOp (o : L_api_Op) : Prop := o.2.2.2.2.1.length ≤ reachBytes ∧ 0 ≤ o.2.2.2.2.2.1 ∧ o.2.2.2.2.2.1 < 18446744073709551616
def OkBlock (b : L_api_Block) : Prop := b.1.length ≤ reachBytes ∧ b.2.1.length ≤ reachBytes ∧ (∀ p ∈ b.1, OkPhi p) ∧ (∀ o ∈ b.2.1, OkOp o) ∧ b.2.2.1.2.2.1.length ≤ reachBytes
def OkF (f : L_api_Func) : Prop := f.1.length ≤ reachBytes ∧ f.2.2.1.length ≤ reachBytes ∧ ∀ b ∈ f.2.2.1, OkBlock b
theorem okF {f : L_api_Func} (h : OkD Y_api_Func f) : OkF f := by
  obtain ⟨⟨h1, _⟩, _, ⟨h2, h3⟩, _⟩ := h
  refine ⟨h1, h2, fun b hb => ?_⟩
  obtain ⟨⟨p1, p2⟩, ⟨o1, o2⟩, ⟨_, _, ⟨e1, _⟩, _⟩, _⟩ := h3 b hb
  refine ⟨p1, o1, fun p hp => ?_, fun o ho => ?_, e1⟩
  · obtain ⟨_, _, ⟨q1, _⟩, ⟨q2, _⟩, _⟩ := p2 p hp
    exact ⟨q1, q2⟩
  · obtain ⟨_, _, _, _, ⟨q1, _⟩, q2, _⟩ := o2 o ho
    have := wf_u64 q2
    exact ⟨q1, this.1, this.2⟩
theorem in_ok {l : List Int} (hl : l.length ≤ reachBytes) : EvTo (fun k => code_in k l) (l.all inN) := by
  have hr := reach_max
  obtain ⟨v, h1, h2⟩ := index_gen l (fun k x => code_in_1 k x) (fun x => !inN x) 0 (fun k i => slices_IndexFunc_int_int_code_in_1_l2 k l () (l.length : Int) i) (by omega) (fun k i => rfl) (fun x _ => by
    unfold code_in_1
    by_cases h : x < 0
    · have e : inN x = false := by simp only [inN]; exact decide_eq_false (by omega)
      exact EvTo.ifn (by simpa using h) (EvTo.pure' (by rw [e]; rfl))
    · refine EvTo.ifp (by simpa using h) (EvTo.pure' ?_)
      by_cases hx : x ≤ 2147483647
      · have e : inN x = true := inN_iff.2 ⟨by omega, hx⟩
        rw [e]; simp; omega
      · have e : inN x = false := by simp only [inN]; exact decide_eq_false (by omega)
        rw [e]; simp; omega)
  have e : l.all inN = !(l.any fun x => !inN x) := by
    rw [List.not_any_eq_all_not]; simp
  unfold code_in slices_ContainsFunc_int_int_code_in_1 slices_IndexFunc_int_int_code_in_1
  refine EvTo.bind (a := decide (0 ≤ (Sum.elim (fun _ => -1) id v : Int))) (EvTo.bind (a := (Sum.elim (fun _ => -1) id v : Int)) (EvTo.bind h1 ?_) EvTo.pure) (EvTo.pure' ?_)
  · cases v with
    | inl _ => exact EvTo.pure
    | inr i => exact EvTo.pure
  · rw [e]
    cases v with
    | inl _ => rw [h2]; rfl
    | inr i => rw [h2.2]; exact congrArg (!·) (decide_eq_true h2.1)
theorem lists_ok {ll : List (List Int)} (hl : ll.length ≤ reachBytes) (hs : ∀ l ∈ ll, l.length ≤ reachBytes) : EvTo (fun k => code_lists k ll) (ll.all listB) := by
  have hr := reach_max
  have hm := maxLen_le
  unfold code_lists
  have key := EvTo.range0 ll (fun k i => code_lists_l2 k ll (ll.length : Int) (i : Int)) (fun _ r => if r.all listB = true then Sum.inl () else Sum.inr false)
    (EvTo.succ (by simp only [code_lists_l2]; exact EvTo.ifn (by simp) (EvTo.pure' (by simp))))
    (fun i h ih => EvTo.succ (by
      simp only [code_lists_l2]
      refine EvTo.ifp (by simpa using h) (EvTo.ifp (by omega) ?_)
      rw [getI h]
      have hlt := hs _ (List.getElem_mem h)
      by_cases h64 : ll[i].length ≤ 64
      · refine EvTo.ifp (by rw [decide_eq_false_iff_not]; omega) (EvTo.bind (in_ok hlt) ?_)
        cases hin : ll[i].all inN with
        | true =>
          refine EvTo.ifn (by simp) ?_
          rw [wrapS h (by omega)]
          have e : listB ll[i] = true := by simp [listB, h64, hin]
          exact ih.to (by simp only [List.all_cons, e, Bool.true_and])
        | false =>
          have e : listB ll[i] = false := by simp [listB, hin]
          exact EvTo.ifp (by simp) (EvTo.pure' (by simp only [List.all_cons, e, Bool.false_and, Bool.false_eq_true, if_false]))
      · have e : listB ll[i] = false := by simp [listB, h64]
        exact EvTo.ifn (by rw [decide_eq_false_iff_not]; omega) (EvTo.pure' (by simp only [List.all_cons, e, Bool.false_and, Bool.false_eq_true, if_false]))))
  refine EvTo.bind key ?_
  cases h : ll.all listB with
  | true => simp only [if_true]; exact EvTo.pure
  | false => simp only [Bool.false_eq_true, if_false]; exact EvTo.pure
theorem mayBlock_ok {b : L_api_Block} (hb : OkBlock b) : EvTo (fun k => code_mayBlock k b) (blockB b) := by
  have hr := reach_max
  have hm := maxLen_le
  have h3 : (4 : Nat) ≤ reachBytes := by decide
  obtain ⟨b1, b2, b3, b4, b5⟩ := hb
  unfold code_mayBlock
  have kp := EvTo.range0 b.1 (fun k i => code_mayBlock_l2 k b b.1 (b.1.length : Int) (i : Int)) (fun _ r => if r.all phiB = true then Sum.inl b else Sum.inr (false, b))
    (EvTo.succ (by simp only [code_mayBlock_l2]; exact EvTo.ifn (by simp) (EvTo.pure' (by simp))))
    (fun i h ih => EvTo.succ (by
      simp only [code_mayBlock_l2]
      refine EvTo.ifp (by simpa using h) (EvTo.ifp (by omega) ?_)
      rw [getI h]
      obtain ⟨o1, o2⟩ := b3 _ (List.getElem_mem h)
      refine EvTo.bind (in_ok (by simp; omega)) ?_
      cases hin : [b.1[i].1, b.1[i].2.1].all inN with
      | true =>
        refine EvTo.ifp (by simp) (EvTo.bind (lists_ok (by simp; omega) (by simp; exact ⟨o1, o2⟩)) ?_)
        simp only [List.all_cons, List.all_nil, Bool.and_true] at hin
        cases hli : [b.1[i].2.2.1, b.1[i].2.2.2.1].all listB with
        | true =>
          simp only [List.all_cons, List.all_nil, Bool.and_true] at hli
          have e : phiB b.1[i] = true := by simp only [phiB, hin, hli, Bool.and_self]
          refine EvTo.ifn (by simp) ?_
          rw [wrapS h (by omega)]
          exact ih.to (by simp only [List.all_cons, e, Bool.true_and])
        | false =>
          simp only [List.all_cons, List.all_nil, Bool.and_true] at hli
          have e : phiB b.1[i] = false := by simp only [phiB, hli, Bool.and_false]
          exact EvTo.ifp (by simp) (EvTo.pure' (by simp only [List.all_cons, e, Bool.false_and, Bool.false_eq_true, if_false]))
      | false =>
        simp only [List.all_cons, List.all_nil, Bool.and_true] at hin
        have e : phiB b.1[i] = false := by simp only [phiB, hin, Bool.false_and]
        exact EvTo.ifn (by simp) (EvTo.pure' (by simp only [List.all_cons, e, Bool.false_and, Bool.false_eq_true, if_false]))))
  have ko := EvTo.range0 b.2.1 (fun k i => code_mayBlock_l8 k b b.2.1 (b.2.1.length : Int) (i : Int)) (fun _ r => if r.all opB = true then Sum.inl b else Sum.inr (false, b))
    (EvTo.succ (by simp only [code_mayBlock_l8]; exact EvTo.ifn (by simp) (EvTo.pure' (by simp))))
    (fun i h ih => EvTo.succ (by
      simp only [code_mayBlock_l8]
      refine EvTo.ifp (by simpa using h) (EvTo.ifp (by omega) ?_)
      rw [getI h]
      obtain ⟨o1, _⟩ := b4 _ (List.getElem_mem h)
      refine EvTo.bind (in_ok (by simp; omega)) ?_
      cases hin : [b.2.1[i].1, b.2.1[i].2.1, b.2.1[i].2.2.1, b.2.1[i].2.2.2.1].all inN with
      | true =>
        refine EvTo.ifp (by simp) (EvTo.bind (lists_ok (by simp; omega) (by simp; exact o1)) ?_)
        simp only [List.all_cons, List.all_nil, Bool.and_true] at hin
        cases hli : [b.2.1[i].2.2.2.2.1].all listB with
        | true =>
          simp only [List.all_cons, List.all_nil, Bool.and_true] at hli
          have e : opB b.2.1[i] = true := by simp only [opB, hin, hli, Bool.and_self]
          refine EvTo.ifn (by simp) ?_
          rw [wrapS h (by omega)]
          exact ih.to (by simp only [List.all_cons, e, Bool.true_and])
        | false =>
          simp only [List.all_cons, List.all_nil, Bool.and_true] at hli
          have e : opB b.2.1[i] = false := by simp only [opB, hli, Bool.and_false]
          exact EvTo.ifp (by simp) (EvTo.pure' (by simp only [List.all_cons, e, Bool.false_and, Bool.false_eq_true, if_false]))
      | false =>
        simp only [List.all_cons, List.all_nil, Bool.and_true] at hin
        have e : opB b.2.1[i] = false := by simp only [opB, hin, Bool.false_and]
        exact EvTo.ifn (by simp) (EvTo.pure' (by simp only [List.all_cons, e, Bool.false_and, Bool.false_eq_true, if_false]))))
  refine EvTo.bind kp ?_
  cases hp : b.1.all phiB with
  | false =>
    simp only [Bool.false_eq_true, if_false]
    exact EvTo.pure' (by simp [blockB, hp])
  | true =>
    simp only [if_true]
    refine EvTo.bind ko ?_
    cases ho : b.2.1.all opB with
    | false =>
      simp only [Bool.false_eq_true, if_false]
      exact EvTo.pure' (by simp [blockB, ho])
    | true =>
      simp only [if_true]
      refine EvTo.bind (in_ok (by simp; omega)) ?_
      cases hin : [b.2.2.1.1, b.2.2.1.2.1].all inN with
      | true =>
        simp only [List.all_cons, List.all_nil, Bool.and_true] at hin
        refine EvTo.ifp rfl (EvTo.bind (lists_ok (by simp; omega) (by simp; exact b5)) (EvTo.pure' ?_))
        simp [blockB, hp, ho, endB, hin]
      | false =>
        simp only [List.all_cons, List.all_nil, Bool.and_true] at hin
        exact EvTo.ifn (by simp) (EvTo.pure' (by simp [blockB, endB, hin]))
theorem may_ok {f : L_api_Func} (hf : OkF f) : EvTo (fun k => code_May k f) (mayF f) := by
  have hr := reach_max
  have h3 : (4 : Nat) ≤ reachBytes := by decide
  obtain ⟨f1, f2, f3⟩ := hf
  unfold code_May
  by_cases c1 : f.2.2.1.length < 1
  · exact EvTo.ifn (by rw [decide_eq_false_iff_not]; omega) (EvTo.pure' (by simp only [mayF]; rw [decide_eq_false (by omega)]; rfl))
  refine EvTo.ifp (by rw [decide_eq_false_iff_not]; omega) ?_
  by_cases c2 : f.2.2.1.length > 64
  · exact EvTo.ifn (by rw [decide_eq_false_iff_not]; omega) (EvTo.pure' (by simp only [mayF]; rw [decide_eq_false (by omega)]; rfl))
  refine EvTo.ifp (by rw [decide_eq_false_iff_not]; omega) ?_
  by_cases c3 : f.1.length > 16
  · exact EvTo.ifn (by rw [decide_eq_false_iff_not]; omega) (EvTo.pure' (by simp only [mayF]; rw [decide_eq_false (by omega)]; rfl))
  refine EvTo.ifp (by rw [decide_eq_false_iff_not]; omega) ?_
  have hre := reach_le
  obtain ⟨z1, z2⟩ := size_ok' (f := f) (by omega) (fun b hb => by
    obtain ⟨q1, q2, _⟩ := f3 b hb
    unfold sizeB; omega)
  refine EvTo.bind z1 ?_
  by_cases c4 : sizeF f > 512
  · exact EvTo.ifn (by rw [decide_eq_false_iff_not]; omega) (EvTo.pure' (by simp only [mayF]; rw [decide_eq_false (by omega)]; rfl))
  refine EvTo.ifp (by rw [decide_eq_false_iff_not]; omega) ?_
  have e0 : mayF f = (inN f.2.1 && (f.1.all inN && f.2.2.1.all blockB)) := by
    unfold mayF
    rw [decide_eq_true (by omega), Bool.true_and]
  rw [e0]
  refine EvTo.bind (in_ok (by simp; omega)) ?_
  cases h5 : [f.2.1].all inN with
  | false =>
    simp only [List.all_cons, List.all_nil, Bool.and_true] at h5
    exact EvTo.ifn (by simp) (EvTo.pure' (by rw [h5]; rfl))
  | true =>
    simp only [List.all_cons, List.all_nil, Bool.and_true] at h5
    refine EvTo.ifp (by simp) (EvTo.bind (in_ok f1) ?_)
    rw [h5, Bool.true_and]
    cases h6 : f.1.all inN with
    | false => exact EvTo.ifp (by simp) EvTo.pure
    | true =>
      refine EvTo.ifn (by simp) ?_
      obtain ⟨v, h1, h2⟩ := index_gen f.2.2.1 (fun k x => code_May_1 k x) (fun x => !blockB x) ([], [], (0, 0, [], ()), ()) (fun k i => slices_IndexFunc_api_Block_api_Block_code_May_1_l2 k f.2.2.1 () (f.2.2.1.length : Int) i) (by omega) (fun k i => rfl) (fun x hx => by
        unfold code_May_1
        exact EvTo.bind (mayBlock_ok (f3 x hx)) EvTo.pure)
      have e : f.2.2.1.all blockB = !(f.2.2.1.any fun x => !blockB x) := by
        rw [List.not_any_eq_all_not]; simp
      unfold slices_ContainsFunc_api_Block_api_Block_code_May_1 slices_IndexFunc_api_Block_api_Block_code_May_1
      refine EvTo.bind (a := decide (0 ≤ (Sum.elim (fun _ => -1) id v : Int))) (EvTo.bind (a := (Sum.elim (fun _ => -1) id v : Int)) (EvTo.bind h1 ?_) EvTo.pure) (EvTo.pure' ?_)
      · cases v with
        | inl _ => exact EvTo.pure
        | inr i => exact EvTo.pure
      · rw [Bool.true_and, e]
        cases v with
        | inl _ => rw [h2]; rfl
        | inr i => rw [h2.2]; exact congrArg (!·) (decide_eq_true h2.1)
/-! a function's bytes -/
theorem phiB_V {p : L_api_Phi} : phiB p = true ↔ phiC.V p := by
  simp only [phiB, listB, Bool.and_eq_true, inN_iff, decide_eq_true_eq]
  show _ ↔ (0 ≤ p.1 ∧ p.1 ≤ 2147483647) ∧ (0 ≤ p.2.1 ∧ p.2.1 ≤ 2147483647) ∧ l64.V p.2.2.1 ∧ l64.V p.2.2.2.1
  rw [listC_V, listC_V]
  exact ⟨fun h => ⟨h.1.1, h.1.2, h.2⟩, fun h => ⟨⟨h.1, h.2.1⟩, h.2.2⟩⟩
theorem opB_V {o : L_api_Op} (ho : 0 ≤ o.2.2.2.2.2.1 ∧ o.2.2.2.2.2.1 < 18446744073709551616) : opB o = true ↔ opC.V o := by
  simp only [opB, listB, Bool.and_eq_true, inN_iff, decide_eq_true_eq]
  show _ ↔ (0 ≤ o.1 ∧ o.1 ≤ 2147483647) ∧ (0 ≤ o.2.1 ∧ o.2.1 ≤ 2147483647) ∧ (0 ≤ o.2.2.1 ∧ o.2.2.1 ≤ 2147483647) ∧ (0 ≤ o.2.2.2.1 ∧ o.2.2.2.1 ≤ 2147483647) ∧ l64.V o.2.2.2.2.1 ∧ (0 ≤ o.2.2.2.2.2.1 ∧ o.2.2.2.2.2.1 < 18446744073709551616)
  rw [listC_V]
  exact ⟨fun h => ⟨h.1.1, h.1.2.1, h.1.2.2.1, h.1.2.2.2, h.2, ho⟩, fun h => ⟨⟨h.1, h.2.1, h.2.2.1, h.2.2.2.1⟩, h.2.2.2.2.1⟩⟩
theorem blockB_V {b : L_api_Block} (hb : OkBlock b) (h1 : b.1.length ≤ 512) (h2 : b.2.1.length ≤ 512) : blockB b = true ↔ blockC.V b := by
  show _ ↔ (b.1.length ≤ 512 ∧ ∀ p ∈ b.1, phiC.V p) ∧ (b.2.1.length ≤ 512 ∧ ∀ o ∈ b.2.1, opC.V o) ∧ (0 ≤ b.2.2.1.1 ∧ b.2.2.1.1 ≤ 2147483647) ∧ (0 ≤ b.2.2.1.2.1 ∧ b.2.2.1.2.1 ≤ 2147483647) ∧ l64.V b.2.2.1.2.2.1
  rw [listC_V]
  simp only [blockB, endB, listB, Bool.and_eq_true, inN_iff, decide_eq_true_eq, List.all_eq_true]
  constructor
  · rintro ⟨q1, q2, ⟨q3, q4⟩, q5⟩
    exact ⟨⟨h1, fun p hp => phiB_V.1 (q1 p hp)⟩, ⟨h2, fun o ho => (opB_V (hb.2.2.2.1 o ho).2).1 (q2 o ho)⟩, q3, q4, q5⟩
  · rintro ⟨⟨_, q1⟩, ⟨_, q2⟩, q3, q4, q5⟩
    exact ⟨fun p hp => phiB_V.2 (q1 p hp), fun o ho => (opB_V (hb.2.2.2.1 o ho).2).2 (q2 o ho), ⟨q3, q4⟩, q5⟩
/-- a function's bytes -/
def encF (f : L_api_Func) : List Int := headC.E (f.1, f.2.1, (f.2.2.1.length : Int)) ++ f.2.2.1.flatMap blockC.E
theorem sizeB_le {f : L_api_Func} : ∀ {l : List L_api_Block} {b : L_api_Block}, b ∈ l → sizeB b ≤ (l.map sizeB).sum
  | x :: l, b, h => by
    simp only [List.map_cons, List.sum_cons]
    rcases List.mem_cons.1 h with rfl | h
    · omega
    · have := sizeB_le (f := f) h; omega
theorem mayF_V {f : L_api_Func} (hf : OkF f) (h : mayF f = true) : headC.V (f.1, f.2.1, (f.2.2.1.length : Int)) ∧ (∀ b ∈ f.2.2.1, blockC.V b) ∧ 1 ≤ f.2.2.1.length ∧ f.2.2.1.length ≤ 64 ∧ sizeF f ≤ 512 := by
  simp only [mayF, Bool.and_eq_true, decide_eq_true_eq] at h
  obtain ⟨⟨h1, h2, h3, h4⟩, h5, h6, h7⟩ := h
  refine ⟨?_, fun b hb => ?_, h1, h2, h4⟩
  · show l16.V f.1 ∧ (0 ≤ f.2.1 ∧ f.2.1 ≤ 2147483647) ∧ (0 ≤ (f.2.2.1.length : Int) ∧ (f.2.2.1.length : Int) ≤ 64)
    rw [listC_V]
    exact ⟨⟨h3, h6⟩, inN_iff.1 h5, by omega, by omega⟩
  · have hs := sizeB_le (f := f) hb
    have hz : (f.2.2.1.map sizeB).sum ≤ 512 := by unfold sizeF at h4; omega
    unfold sizeB at hs
    exact (blockB_V (hf.2.2 b hb) (by unfold sizeB at hz; omega) (by unfold sizeB at hz; omega)).1 (List.all_eq_true.1 h7 b hb)
theorem dec_enc {f : L_api_Func} (hf : OkF f) (h : mayF f = true) (more : List Int) : decP (encF f ++ more) = if more.length > 0 then (emptyF, 3) else (f, 0) := by
  obtain ⟨h1, h2, h3, h4, h5⟩ := mayF_V hf h
  unfold decP encF
  rw [List.append_assoc, headC.ok _ h1]
  simp only [ne_eq, not_true_eq_false, if_false, Int.toNat_natCast]
  rw [if_neg (by omega), listP_ok blockC _ [] more h2]
  simp only [List.nil_append, not_true_eq_false, if_false]
  split
  · rfl
  · rw [if_neg (show ¬ sizeF (f.1, f.2.1, f.2.2.1, ()) > 512 by show ¬ sizeF f > 512; omega)]
theorem dec_cut {f : L_api_Func} (hf : OkF f) (h : mayF f = true) {j : Nat} (hj : j < (encF f).length) : decP ((encF f).take j) = (emptyF, 2) := by
  obtain ⟨h1, h2, h3, h4, h5⟩ := mayF_V hf h
  unfold encF at hj ⊢
  rw [List.length_append] at hj
  by_cases hc : j < (headC.E (f.1, f.2.1, (f.2.2.1.length : Int))).length
  · rw [List.take_append_of_le_length (by omega)]
    have := headC.cut h1 hc
    unfold decP
    rw [if_pos (by rw [this]; decide), this]
  · have e1 : (headC.E (f.1, f.2.1, (f.2.2.1.length : Int)) ++ f.2.2.1.flatMap blockC.E).take j = headC.E (f.1, f.2.1, (f.2.2.1.length : Int)) ++ (f.2.2.1.flatMap blockC.E).take (j - (headC.E (f.1, f.2.1, (f.2.2.1.length : Int))).length) := by
      rw [List.take_append, List.take_of_length_le (by omega)]
    unfold decP
    rw [e1, headC.ok _ h1]
    simp only [ne_eq, not_true_eq_false, if_false, Int.toNat_natCast]
    rw [if_neg (by omega)]
    have := listP_cut blockC f.2.2.1 [] (j - (headC.E (f.1, f.2.1, (f.2.2.1.length : Int))).length) h2 (by omega)
    rw [if_pos (by rw [this]; decide), this]
/-- what is read is what was told -/
theorem dec_sound {b : List Int} (hb : Bytes b) {g : L_api_Func} (h : decP b = (g, 0)) : (OkF g ∧ mayF g = true) ∧ b = encF g := by
  unfold decP at h
  split at h
  · rename_i h1
    simp only [Prod.mk.injEq] at h
    exact absurd h.2 h1
  · rename_i h1
    have h1 := Decidable.not_not.1 h1
    split at h
    · simp at h
    · rename_i h2
      simp only at h
      split at h
      · rename_i h3
        simp only [Prod.mk.injEq] at h
        exact absurd h.2 h3
      · rename_i h3
        have h3 := Decidable.not_not.1 h3
        split at h
        · simp at h
        · rename_i h4
          split at h
          · simp at h
          · rename_i h5
            simp only [Prod.mk.injEq, and_true] at h
            obtain ⟨k1, k2⟩ := headC.sound (b, 0, ()) hb rfl h1
            have hb' : Bytes (headC.P (b, 0, ())).2.1 := by
              obtain ⟨n, hn⟩ := headC.suf (b, 0, ())
              rw [hn]; exact hb.drop n
            obtain ⟨l, l1, l2, l3, l4⟩ := listP_sound blockC _ [] _ hb' h1 h3
            rw [List.nil_append] at l1
            have hnil : (listP blockC.P (headC.P (b, 0, ())).1.2.2.toNat [] (headC.P (b, 0, ())).2).2.1 = [] := List.eq_nil_of_length_eq_zero (by omega)
            rw [hnil, List.append_nil] at l4
            obtain ⟨v1, v2, v3⟩ := k1
            have v1 := (listC_V _ _ _).1 v1
            have v2 : 0 ≤ (headC.P (b, 0, ())).1.2.1 ∧ (headC.P (b, 0, ())).1.2.1 ≤ 2147483647 := v2
            have v3 : 0 ≤ (headC.P (b, 0, ())).1.2.2 ∧ (headC.P (b, 0, ())).1.2.2 ≤ 64 := v3
            rw [l1] at h h5
            have hre : (512 : Nat) ≤ reachBytes := by decide
            have hok : ∀ x ∈ l, OkBlock x ∧ x.1.length ≤ 512 ∧ x.2.1.length ≤ 512 := fun x hx => by
              obtain ⟨⟨p1, p2⟩, ⟨o1, o2⟩, e1, e2, e3⟩ := l3 x hx
              have e3 := (listC_V _ _ _).1 e3
              have p1 : x.1.length ≤ 512 := p1
              have o1 : x.2.1.length ≤ 512 := o1
              have e31 : x.2.2.1.2.2.1.length ≤ 64 := e3.1
              refine ⟨⟨by omega, by omega, fun p hp => ?_, fun o ho => ?_, by omega⟩, p1, o1⟩
              · obtain ⟨_, _, q1, q2⟩ := p2 p hp
                have q1 := ((listC_V _ _ _).1 q1).1
                have q2 := ((listC_V _ _ _).1 q2).1
                have q1 : p.2.2.1.length ≤ 64 := q1
                have q2 : p.2.2.2.1.length ≤ 64 := q2
                exact ⟨by omega, by omega⟩
              · obtain ⟨_, _, _, _, q1, q2⟩ := o2 o ho
                have q1 := ((listC_V _ _ _).1 q1).1
                have q1 : o.2.2.2.2.1.length ≤ 64 := q1
                have q2 : 0 ≤ o.2.2.2.2.2.1 ∧ o.2.2.2.2.2.1 < 18446744073709551616 := q2
                exact ⟨by omega, q2.1, q2.2⟩
            subst h
            refine ⟨⟨⟨by simp only; omega, by simp only; omega, fun x hx => (hok x hx).1⟩, ?_⟩, ?_⟩
            · simp only [mayF, Bool.and_eq_true, decide_eq_true_eq]
              refine ⟨⟨by omega, by omega, v1.1, by omega⟩, inN_iff.2 v2, v1.2, List.all_eq_true.2 fun x hx => ?_⟩
              obtain ⟨q1, q2, q3⟩ := hok x hx
              exact (blockB_V q1 q2 q3).2 (l3 x hx)
            · have e : ((l.length : Nat) : Int) = (headC.P (b, 0, ())).1.2.2 := by omega
              unfold encF
              simp only
              rw [e, ← l4]
              exact k2
theorem encF_bytes {f : L_api_Func} (hf : OkF f) (h : mayF f = true) : Bytes (encF f) := by
  obtain ⟨h1, h2, _⟩ := mayF_V hf h
  refine (headC.bytes _ h1).append fun x hx => ?_
  obtain ⟨y, hy, hx⟩ := List.mem_flatMap.1 hx
  exact blockC.bytes y (h2 y hy) x hx
end Go.PrS
