/- The laws CodeTells and CodeSame as plain functions return true for every input. No conditions beyond each theorem's own. -/
import Derived.Test.YthbmdmphkeclmaaPRef
import Derived.Test.YthbmdmphkeclmaaPCuts
set_option linter.unusedVariables false
set_option linter.unusedSimpArgs false
namespace Go.PrS
open Go Go.Ev Go.Proofs
theorem bne_false {x y : Int} (h : x = y) : (x != y) = false := by simp [h]
theorem bne_not {x y : Int} (h : x ≠ y) : ¬ (x != y) = false := by simp [h]
theorem rsameOp_ok {p : L_api_Op} (hp : OkOp p) (q : L_api_Op) : EvTo (fun k => lockstepref03_Same k p q) (decide (p = q)) := by
  unfold lockstepref03_Same
  by_cases h1 : p.1 = q.1
  · refine EvTo.ifp (by simpa using h1) ?_
    by_cases h2 : p.2.1 = q.2.1
    · refine EvTo.ifp (by simpa using h2) ?_
      by_cases h3 : p.2.2.1 = q.2.2.1
      · refine EvTo.ifp (by simpa using h3) ?_
        by_cases h4 : p.2.2.2.1 = q.2.2.2.1
        · refine EvTo.ifp (by simpa using h4) ?_
          by_cases h5 : p.2.2.2.2.2.1 = q.2.2.2.2.2.1
          · refine EvTo.ifp (by simpa using h5) (EvTo.bind (ints_ok hp.1) (EvTo.pure' ?_))
            simp only [op_eq, h1, h2, h3, h4, h5, true_and]
          · exact EvTo.ifn (by simpa using h5) (EvTo.pure' (by simp only [op_eq, h5, false_and, and_false, decide_false]))
        · exact EvTo.ifn (by simpa using h4) (EvTo.pure' (by simp only [op_eq, h4, false_and, and_false, decide_false]))
      · exact EvTo.ifn (by simpa using h3) (EvTo.pure' (by simp only [op_eq, h3, false_and, and_false, decide_false]))
    · exact EvTo.ifn (by simpa using h2) (EvTo.pure' (by simp only [op_eq, h2, false_and, and_false, decide_false]))
  · exact EvTo.ifn (by simpa using h1) (EvTo.pure' (by simp only [op_eq, h1, false_and, and_false, decide_false]))
theorem rsamePhis (f g : L_api_Func) (j : Int) {b c : L_api_Block} (hb : OkBlock b) (hl : b.1.length = c.1.length) : EvTo (fun k => lockstepref04_Same_l11 k f g j b c 0) (if b.1 = c.1 then Sum.inl (f, g, b, c) else Sum.inr (false, f, g, b, c)) := by
  have hm := reach_le
  have hbl := hb.1
  refine eq_loop b.1 c.1 hl (fun k i => lockstepref04_Same_l11 k f g j b c (i : Int)) _ _ (EvTo.succ (by simp only [lockstepref04_Same_l11]; exact EvTo.ifn (by simp) EvTo.pure)) (fun i h h' => ⟨fun hne => EvTo.succ ?_, fun he v hv => EvTo.succ ?_⟩)
  · simp only [lockstepref04_Same_l11]
    rw [getI h, getI h']
    obtain ⟨o1, o2⟩ := hb.2.2.1 _ (List.getElem_mem h)
    refine EvTo.ifp (by simpa using h) (EvTo.ifp (by omega) (EvTo.ifp (by omega) ?_))
    by_cases h1 : b.1[i].1 = c.1[i].1
    · refine EvTo.ifp (bne_false h1) ?_
      by_cases h2 : b.1[i].2.1 = c.1[i].2.1
      · refine EvTo.ifp (bne_false h2) (EvTo.bind (ints_ok o1) ?_)
        by_cases h3 : b.1[i].2.2.1 = c.1[i].2.2.1
        · refine EvTo.ifp (by simp [h3]) (EvTo.bind (ints_ok o2) ?_)
          by_cases h4 : b.1[i].2.2.2.1 = c.1[i].2.2.2.1
          · exact absurd (phi_eq.2 ⟨h1, h2, h3, h4⟩) hne
          · exact EvTo.ifp (by simpa using h4) EvTo.pure
        · exact EvTo.ifn (by simpa using h3) EvTo.pure
      · exact EvTo.ifn (bne_not h2) EvTo.pure
    · exact EvTo.ifn (bne_not h1) EvTo.pure
  · simp only [lockstepref04_Same_l11]
    rw [getI h, getI h', wrapS h (by omega)]
    obtain ⟨o1, o2⟩ := hb.2.2.1 _ (List.getElem_mem h)
    obtain ⟨h1, h2, h3, h4⟩ := phi_eq.1 he
    exact EvTo.ifp (by simpa using h) (EvTo.ifp (by omega) (EvTo.ifp (by omega) (EvTo.ifp (bne_false h1) (EvTo.ifp (bne_false h2) (EvTo.bind (ints_ok o1) (EvTo.ifp (by simp [h3]) (EvTo.bind (ints_ok o2) (EvTo.ifn (by simp [h4]) hv))))))))
theorem rsameOps (f g : L_api_Func) (j : Int) {b c : L_api_Block} (hb : OkBlock b) (hl : b.2.1.length = c.2.1.length) : EvTo (fun k => lockstepref04_Same_l18 k f g j b c 0) (if b.2.1 = c.2.1 then Sum.inl (f, g, b, c) else Sum.inr (false, f, g, b, c)) := by
  have hm := reach_le
  have hbl := hb.2.1
  refine eq_loop b.2.1 c.2.1 hl (fun k i => lockstepref04_Same_l18 k f g j b c (i : Int)) _ _ (EvTo.succ (by simp only [lockstepref04_Same_l18]; exact EvTo.ifn (by simp) EvTo.pure)) (fun i h h' => ⟨fun hne => EvTo.succ ?_, fun he v hv => EvTo.succ ?_⟩)
  · simp only [lockstepref04_Same_l18]
    rw [getI h, getI h']
    exact EvTo.ifp (by simpa using h) (EvTo.ifp (by omega) (EvTo.ifp (by omega) (EvTo.bind (rsameOp_ok (hb.2.2.2.1 _ (List.getElem_mem h)) _) (EvTo.ifp (by simpa using hne) EvTo.pure))))
  · simp only [lockstepref04_Same_l18]
    rw [getI h, getI h', wrapS h (by omega)]
    exact EvTo.ifp (by simpa using h) (EvTo.ifp (by omega) (EvTo.ifp (by omega) (EvTo.bind (rsameOp_ok (hb.2.2.2.1 _ (List.getElem_mem h)) _) (EvTo.ifn (by simpa using he) hv))))
theorem rsame_ok {p : L_api_Func} (hp : OkF p) (q : L_api_Func) : EvTo (fun k => lockstepref04_Same k p q) (decide (p = q)) := by
  have hm := reach_le
  obtain ⟨p1, p2, p3⟩ := hp
  unfold lockstepref04_Same
  by_cases h1 : p.2.1 = q.2.1
  · refine EvTo.ifp (bne_false h1) (EvTo.bind (ints_ok p1) ?_)
    by_cases h2 : p.1 = q.1
    · refine EvTo.ifp (by simp [h2]) ?_
      by_cases hl : p.2.2.1.length = q.2.2.1.length
      · refine EvTo.ifn (by simp [hl]) ?_
        refine EvTo.bind (eq_loop p.2.2.1 q.2.2.1 hl (fun k i => lockstepref04_Same_l4 k p q (i : Int)) (.inl (p, q)) (.inr (false, p, q)) (EvTo.succ (by simp only [lockstepref04_Same_l4]; exact EvTo.ifn (by simp) EvTo.pure)) (fun i h h' => ⟨fun hne => EvTo.succ ?_, fun he v hv => EvTo.succ ?_⟩)) ?_
        · simp only [lockstepref04_Same_l4]
          rw [getI h, getI h']
          have hb := p3 _ (List.getElem_mem h)
          refine EvTo.ifp (by simpa using h) (EvTo.ifp (by omega) (EvTo.ifp (by omega) ?_))
          by_cases c1 : p.2.2.1[i].1.length = q.2.2.1[i].1.length
          · refine EvTo.ifp (bne_false (by rw [c1])) ?_
            by_cases c2 : p.2.2.1[i].2.1.length = q.2.2.1[i].2.1.length
            · refine EvTo.ifp (bne_false (by rw [c2])) ?_
              by_cases c3 : p.2.2.1[i].2.2.1.1 = q.2.2.1[i].2.2.1.1
              · refine EvTo.ifp (bne_false c3) ?_
                by_cases c4 : p.2.2.1[i].2.2.1.2.1 = q.2.2.1[i].2.2.1.2.1
                · refine EvTo.ifp (bne_false c4) (EvTo.bind (ints_ok hb.2.2.2.2) ?_)
                  by_cases c5 : p.2.2.1[i].2.2.1.2.2.1 = q.2.2.1[i].2.2.1.2.2.1
                  · refine EvTo.ifn (by simp [c5]) (EvTo.bind (rsamePhis p q (i : Int) hb c1) ?_)
                    by_cases c6 : p.2.2.1[i].1 = q.2.2.1[i].1
                    · simp only [c6, if_true]
                      refine EvTo.bind (rsameOps p q (i : Int) hb c2) ?_
                      by_cases c7 : p.2.2.1[i].2.1 = q.2.2.1[i].2.1
                      · exact absurd (block_eq.2 ⟨c6, c7, c3, c4, c5⟩) hne
                      · simp only [c7, if_false]
                        exact EvTo.pure
                    · simp only [c6, if_false]
                      exact EvTo.pure
                  · exact EvTo.ifp (by simpa using c5) EvTo.pure
                · exact EvTo.ifn (bne_not c4) EvTo.pure
              · exact EvTo.ifn (bne_not c3) EvTo.pure
            · exact EvTo.ifn (bne_not (by omega)) EvTo.pure
          · exact EvTo.ifn (bne_not (by omega)) EvTo.pure
        · simp only [lockstepref04_Same_l4]
          rw [getI h, getI h', wrapS h (by omega)]
          have hb := p3 _ (List.getElem_mem h)
          obtain ⟨c6, c7, c3, c4, c5⟩ := block_eq.1 he
          refine EvTo.ifp (by simpa using h) (EvTo.ifp (by omega) (EvTo.ifp (by omega) (EvTo.ifp (bne_false (by rw [c6])) (EvTo.ifp (bne_false (by rw [c7])) (EvTo.ifp (bne_false c3) (EvTo.ifp (bne_false c4) (EvTo.bind (ints_ok hb.2.2.2.2) (EvTo.ifn (by simp [c5]) ?_))))))))
          refine EvTo.bind (rsamePhis p q (i : Int) hb (by rw [c6])) ?_
          simp only [c6, if_true]
          refine EvTo.bind (rsameOps p q (i : Int) hb (by rw [c7])) ?_
          simp only [c7, if_true]
          exact hv
        · by_cases he : p.2.2.1 = q.2.2.1
          · rw [if_pos he]
            exact EvTo.pure' (by rw [decide_eq_true (func_eq.2 ⟨h2, h1, he⟩)])
          · rw [if_neg he]
            exact EvTo.pure' (by rw [decide_eq_false (fun e => he (func_eq.1 e).2.2)])
      · exact EvTo.ifp (by simp; omega) (EvTo.pure' (by rw [decide_eq_false]; intro e; exact hl (by rw [e])))
    · exact EvTo.ifn (by simpa using h2) (EvTo.pure' (by simp only [func_eq, h2, false_and, decide_false]))
  · exact EvTo.ifn (bne_not h1) (EvTo.pure' (by simp only [func_eq, h1, false_and, and_false, decide_false]))
theorem codeTells_pure (f : L_api_Func) (h : OkD Y_api_Func f) : ∃ n, locksteplaw04_CodeTells n f = some true := by
  have hf := okF h
  refine EvTo.at ?_
  unfold locksteplaw04_CodeTells
  refine EvTo.bind awake_ok (EvTo.ifn (by simp) ?_)
  obtain ⟨b, hs⟩ := small_ok hf
  refine EvTo.bind hs ?_
  cases b with
  | false => exact EvTo.ifp rfl EvTo.pure
  | true =>
    refine EvTo.ifn (by simp) (EvTo.bind (encode_ok hf) (EvTo.bind (may_ok hf) (EvTo.bind (rmay_ok hf) ?_)))
    refine EvTo.ifp (by simp) (EvTo.ifp (by simp) (EvTo.bind (size_ok hf.2.1) (EvTo.ifp (by simp) (EvTo.ifp (by simp) (EvTo.bind (rsize_ok hf.2.1) ?_)))))
    refine EvTo.ifp (by simp) (EvTo.ifn (by simp) (EvTo.ifp (by simp) (EvTo.ifp (by simp) (EvTo.ifp (by simp) (EvTo.bind (rencode_ok hf) ?_)))))
    have hlen : (if mayF f = true then encF f else []).length ≤ 1000000000 := by
      split
      · rename_i hm
        have := encF_len hf hm
        omega
      · simp
    refine EvTo.ifp (by simp) (EvTo.bind (bsame_ok (sizeOk hlen)) (EvTo.ifp (by simp) (EvTo.ifn (by simp) (EvTo.ifn (by simp) (EvTo.bind (rmay_ok hf) ?_)))))
    cases hm : mayF f with
    | false => exact EvTo.ifp rfl (EvTo.pure' (by simp))
    | true =>
      refine EvTo.ifn (by simp) ?_
      simp only [if_true]
      obtain ⟨l0, l1⟩ := encF_len hf hm
      have hd := dec_enc hf hm []
      rw [List.append_nil, if_neg (by simp)] at hd
      refine EvTo.bind (dec_ok (encF_bytes hf hm) (sizeOk (by omega))) ?_
      rw [hd]
      exact EvTo.ifp rfl (EvTo.bind (rsame_ok hf f) (EvTo.ifp (by simp) (EvTo.bind (same_ok hf f) (EvTo.pure' (by simp)))))
theorem encF_inj {f g : L_api_Func} (hf : OkF f) (hg : OkF g) (mf : mayF f = true) (mg : mayF g = true) (h : encF f = encF g) : f = g := by
  have h1 := dec_enc hf mf []
  have h2 := dec_enc hg mg []
  rw [List.append_nil, if_neg (by simp)] at h1 h2
  rw [h, h2] at h1
  exact (congrArg Prod.fst h1).symm
theorem codeSame_pure (f g : L_api_Func) (h : OkD Y_api_Func f) (h' : OkD Y_api_Func g) : ∃ n, locksteplaw04_CodeSame n f g = some true := by
  have hf := okF h
  have hg := okF h'
  refine EvTo.at ?_
  unfold locksteplaw04_CodeSame
  refine EvTo.bind awake_ok (EvTo.ifn (by simp) ?_)
  obtain ⟨b, hs⟩ := small_ok hf
  refine EvTo.bind hs ?_
  cases b with
  | false => exact EvTo.ifn (by simp) EvTo.pure
  | true =>
    refine EvTo.ifp (by simp) ?_
    obtain ⟨b, hs⟩ := small_ok hg
    refine EvTo.bind hs ?_
    cases b with
    | false => exact EvTo.ifp rfl EvTo.pure
    | true =>
      refine EvTo.ifn (by simp) (EvTo.bind (same_ok hf g) (EvTo.bind (rsame_ok hf g) (EvTo.ifp (by simp) (EvTo.bind (same_ok hf f) (EvTo.ifn (by simp) (EvTo.bind (rmay_ok hf) ?_))))))
      cases mf : mayF f with
      | false => exact EvTo.ifn (by simp) (EvTo.ifn (by simp) (EvTo.ifn (by simp) (EvTo.ifp (by simp) EvTo.pure)))
      | true =>
        refine EvTo.ifp (by simp) (EvTo.ifp (by simp) (EvTo.bind (rmay_ok hg) (EvTo.ifp (by simp) (EvTo.ifn (by simp) ?_))))
        cases mg : mayF g with
        | false => exact EvTo.ifn (by simp) (EvTo.ifn (by simp) (EvTo.ifn (by simp) (EvTo.ifn (by simp) (EvTo.ifn (by simp) (EvTo.ifn (by simp) (EvTo.ifn (by simp) (EvTo.ifp (by simp) EvTo.pure)))))))
        | true =>
          refine EvTo.ifp (by simp) (EvTo.ifp (by simp) (EvTo.ifp (by simp) (EvTo.bind (encode_ok hf) (EvTo.ifp (by simp) (EvTo.ifp (by simp) (EvTo.bind (encode_ok hg) (EvTo.ifp (by simp) ?_)))))))
          rw [mf, mg]
          simp only [if_true]
          have := encF_len hf mf
          refine EvTo.bind (bsame_ok (sizeOk (by omega))) (EvTo.ifp (by simp) (EvTo.ifn (by simp) (EvTo.pure' ?_)))
          by_cases e : f = g
          · simp [e]
          · have e2 : encF f ≠ encF g := fun h => e (encF_inj hf hg mf mg h)
            simp [e, e2]
end Go.PrS
