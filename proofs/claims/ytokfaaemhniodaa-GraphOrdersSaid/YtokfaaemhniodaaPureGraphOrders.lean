/- GraphOrders, the plain law: of every list of ways on it is told whether it is a graph's, which, turned, and its order from any root, as the document says. No conditions. -/
import Derived.Test.YtokfaaemhniodaaGSame
import Derived.Test.YtokfaaemhniodaaGVsim
import Derived.Test.YtokfaaemhniodaaGx23
namespace Go.Proofs.Ytokfaaemhniodaa.GP
open Go.RowKit Go.Proofs.Ytokfaaemhniodaa.G Go.Proofs.YtokfaaemhniodaaW.PrintWords Go.Proofs.YtokfaaemhniodaaH

/-- The two orders of one graph are the same row, which isn't long. -/
theorem orders_same {S : List (List Nat)} (h : Gr S) (p : List (List Int)) (r : Int) : ∃ v : List Int, v.length ≤ big ∧ Ev (fun k => graph_Order.f k (up2 S) p r) v ∧ Ev (fun k => lockstepref06_Order.f k (up2 S) p r) v := by
  have hbb : big = 9223372036854775807 := rfl
  have hle := h.le
  by_cases hp : up2 (pr S) = p
  · subst hp
    by_cases hr : r < 0 ∨ (S.length : Int) ≤ r
    · exact ⟨[], by simp, order_out h _ _ hr, rorder_out h _ _ hr⟩
    · obtain ⟨m, rfl⟩ : ∃ m : Nat, r = (m : Int) := ⟨r.toNat, by omega⟩
      have hm : m < S.length := by omega
      have := dfs_len h hm
      exact ⟨_, by rw [up_length]; omega, order_ok h hm, rorder_ok h hm⟩
  · have h1 := may_ok h p
    have h2 := rmay_ok h p
    rw [decide_eq_false hp] at h1 h2
    exact ⟨[], by simp, order_no _ h1, rorder_no _ h2⟩
theorem graphOrders : locksteplaw06_GraphOrders.Pure := by
  intro l0 l1 a2 hrow hrow1 ha
  apply Ev.at
  have hbb : big = 9223372036854775807 := rfl
  have hml : maxLen ≤ big := by decide
  have hb : l0.length ≤ big := Nat.le_trans hrow.1 hml
  have hb1 : l1.length ≤ big := Nat.le_trans hrow1.1 hml
  unfold locksteplaw06_GraphOrders.f
  refine Ev.bind awake_ev (Ev.ifp rfl ?_)
  have ht : Ev (fun k => locksteplaw06_GraphOrders.j0 k l0 l1 a2 true) true := by
    refine Ev.succ ?_; simp only [locksteplaw06_GraphOrders.j0]; exact Ev.ifp trivial Ev.pure
  obtain ⟨b, h1, h2⟩ := small_ev l0 hb
  refine Ev.bind h1 ?_
  cases b with
  | false => exact Ev.ifn (by decide) ht
  | true =>
    refine Ev.ifp rfl ?_
    have hr : ∀ l ∈ l0, l.length ≤ big := fun l hl => by have := (h2 rfl).2 l hl; omega
    obtain ⟨b', h3, h4⟩ := small_ev l1 hb1
    refine Ev.bind h3 ?_
    cases b' with
    | false => exact ht
    | true =>
      refine Ev.succ ?_; simp only [locksteplaw06_GraphOrders.j0]
      refine Ev.ifn (by decide) ?_
      cases hg : goodb l0 with
      | false =>
        refine Ev.bind (make_bad hb hr hg) (Ev.bind (rmake_bad hr hg) ?_)
        refine Ev.bind (same_ok [] [] [] [] (by simp) (by simp) (by simp) (by simp)) (Ev.ifp (by simp) (Ev.ifp rfl ?_))
        have m1 := may_bad hb hr hg l1
        have m2 := rmay_bad hr hg l1
        refine Ev.bind m1 (Ev.bind m2 (Ev.ifn (by decide) ?_))
        refine Ev.bind (order_no a2 m1) (Ev.bind (rorder_no a2 m2) (Ev.bind (ints_ok [] [] (by simp)) ?_))
        refine Ev.succ ?_; simp only [locksteplaw06_GraphOrders.j1]
        refine Ev.ifn (by simp) ?_
        have ht0 : Ev (fun k => graph_Turned.f k [] []) ([], []) := by
          unfold graph_Turned.f
          refine Ev.bind (may_bad (s := []) (by simp) (by simp) (by decide) []) ?_
          exact Ev.ifn (by decide) Ev.pure
        refine Ev.bind ht0 (Ev.ifn (by decide) (Ev.ifp (by simp) ?_))
        exact Ev.pure.of_eq (by simp)
      | true =>
        obtain ⟨S, h, rfl⟩ := good_gr hg
        have hle := h.le
        have hle2 := (gr_pr h).le
        have q1 : (up2 S).length ≤ big := by rw [up2_length]; omega
        have q2 : (up2 (pr S)).length ≤ big := by rw [up2_length]; omega
        have q3 : ∀ l ∈ up2 (pr S), l.length ≤ big := fun l hl => by have := gr_rows (gr_pr h) l hl; omega
        refine Ev.bind (make_ok h) (Ev.bind (rmake_ok h) ?_)
        refine Ev.bind (same_ok (up2 S) (up2 (pr S)) (up2 S) (up2 (pr S)) q1 hr q2 q3) (Ev.ifp (by simp) (Ev.ifp rfl ?_))
        refine Ev.bind (may_ok h l1) (Ev.bind (rmay_ok h l1) (Ev.ifn (by simp) ?_))
        obtain ⟨v, hv, o1, o2⟩ := orders_same h l1 a2
        refine Ev.bind o1 (Ev.bind o2 (Ev.bind (ints_ok v v hv) ?_))
        refine Ev.succ ?_; simp only [locksteplaw06_GraphOrders.j1]
        refine Ev.ifn (by simp) (Ev.bind (turned_ok h) (Ev.ifp trivial ?_))
        obtain ⟨v', hv', o3, o4⟩ := orders_same h (up2 (pr S)) a2
        refine Ev.bind o3 (Ev.bind o4 (Ev.bind (ints_ok v' v' hv') (Ev.ifp (by simp) ?_)))
        refine Ev.bind (same_ok (up2 (pr S)) (up2 S) (up2 (pr S)) (up2 S) q2 q3 q1 hr) (Ev.ifp (by simp) ?_)
        have h2' := turned_ok (gr_pr h)
        rw [pr_pr h] at h2'
        refine Ev.bind h2' (Ev.bind (same_ok (up2 S) (up2 (pr S)) (up2 S) (up2 (pr S)) q1 hr q2 q3) ?_)
        exact Ev.pure.of_eq (by simp)
end Go.Proofs.Ytokfaaemhniodaa.GP
namespace Go.Proofs.Ytokfaaemhniodaa.Pure
theorem GraphOrders : Go.Proofs.Ytokfaaemhniodaa.G.locksteplaw06_GraphOrders.Pure := GP.graphOrders
end Go.Proofs.Ytokfaaemhniodaa.Pure
