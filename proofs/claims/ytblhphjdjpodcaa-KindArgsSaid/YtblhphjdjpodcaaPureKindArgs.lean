/- KindArgs, the plain law: with an argument less, or one more, or one that is no value's number, an operation doesn't look right. No conditions. -/
import Derived.Test.YtblhphjdjpodcaaKM
import Derived.Test.YtblhphjdjpodcaaQx14
namespace Go.Proofs.Ytblhphjdjpodcaa.KP
open Go.RowKit Go.Proofs.Ytblhphjdjpodcaa.Q Go.Proofs.YtblhphjdjpodcaaW.PrintWords
set_option linter.unusedSimpArgs false
set_option linter.unusedVariables false

theorem mayv_len {c b n d i : Int} {l l' : List Int} (h : mayv c b n d l i = true) (hl : l'.length ≠ l.length) : mayv c b n d l' i = false := by
  unfold mayv at h ⊢
  simp only [Bool.and_eq_true, decide_eq_true_eq] at h
  have : ¬ ((tk c b n i).1.length : Int) = (l'.length : Int) := by have := h.2.2.2.1; omega
  simp [this]
theorem mayv_set {c b n d i x y : Int} {l : List Int} (h : mayv c b n d (y :: l) i = true) : mayv c b n d (x :: l) i = val x := by
  unfold mayv at h ⊢
  simp only [Bool.and_eq_true, decide_eq_true_eq, List.length_cons, List.any_cons, Bool.not_or, Bool.not_not] at h ⊢
  obtain ⟨h1, h2, h3, h4, _, h6⟩ := h
  rw [h1, h2, h3, h6]
  simp [h4]
theorem kindArgs : locksteplaw03_KindArgs.Pure := by
  intro c b n d l i x _ _ _ _ _ hb _ _
  apply Ev.at
  unfold locksteplaw03_KindArgs.f
  refine Ev.bind awake_ev (Ev.ifp rfl ?_)
  have ht : Ev (fun k => locksteplaw03_KindArgs.j0 k x true c b n d l i) true := by
    refine Ev.succ ?_; simp only [locksteplaw03_KindArgs.j0]; exact Ev.ifp trivial Ev.pure
  by_cases h100 : (l.length : Int) > 100
  · exact Ev.ifp h100 ht
  refine Ev.ifn h100 ?_
  refine Ev.bind (may_ok c b n d l i hb) ?_
  cases hm : mayv c b n d l i with
  | false => exact ht
  | true =>
    have hml : 102 ≤ maxLen := by decide
    refine Ev.succ ?_; simp only [locksteplaw03_KindArgs.j0]
    refine Ev.ifn (by decide) ?_
    simp only [Option.bind_some, List.nil_append, List.length_nil]
    refine Ev.ifp (by omega) (Ev.ifp (by omega) ?_)
    refine Ev.bind (may_ok c b n d (l ++ [1]) i (by rw [List.length_append, List.length_singleton]; omega)) ?_
    rw [mayv_len hm (by rw [List.length_append, List.length_singleton]; omega)]
    refine Ev.ifn (by decide) ?_
    by_cases h0 : (l.length : Int) = 0
    · exact Ev.ifp h0 Ev.pure
    refine Ev.ifn h0 (Ev.ifp (by omega) (Ev.ifp (by omega) (Ev.ifp (by omega) ?_)))
    refine Ev.bind (may_ok c b n d (l.drop 1) i (by rw [List.length_drop]; omega)) ?_
    rw [mayv_len hm (by rw [List.length_drop]; omega)]
    refine Ev.ifn (by decide) ?_
    match l, hm, hb, h0, h100 with
    | y :: l, hm, hb, h0, h100 =>
      refine Ev.bind (may_ok c b n d (x :: l) i hb) ?_
      rw [mayv_set hm]
      by_cases hx : x ≥ 1
      · refine Ev.ifp hx (Ev.pure.of_eq ?_)
        unfold val; simp [show 1 ≤ x from hx]
      · refine Ev.ifn hx (Ev.pure.of_eq ?_)
        unfold val; simp; omega
end Go.Proofs.Ytblhphjdjpodcaa.KP
namespace Go.Proofs.Ytblhphjdjpodcaa.Pure
theorem KindArgs : Go.Proofs.Ytblhphjdjpodcaa.Q.locksteplaw03_KindArgs.Pure := KP.kindArgs
end Go.Proofs.Ytblhphjdjpodcaa.Pure
