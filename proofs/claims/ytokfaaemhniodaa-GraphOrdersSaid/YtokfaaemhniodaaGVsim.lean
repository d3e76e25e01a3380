/- Plain law of the document's Order: it is the way through the graph from the root on. No conditions beyond each theorem's own. -/
import Derived.Test.YtokfaaemhniodaaGReach
import Derived.Test.YtokfaaemhniodaaGRef
import Derived.Test.YtokfaaemhniodaaHOrder
namespace Go.Proofs.Ytokfaaemhniodaa.GP
open Go.RowKit Go.Proofs.Ytokfaaemhniodaa.G Go.Proofs.YtokfaaemhniodaaW.PrintWords

mutual
theorem vsim {S : List (List Nat)} (h : Gr S) : ∀ (f x : Nat) (st : Sn × List Nat), x < S.length → st.1 x = false → cnt S.length st.1 ≤ f → st.2.length + cnt S.length st.1 ≤ 1000 →
    Ev (fun k => lockstepref06_Walk_visit.f k (rbn S.length st.1) (up st.2.reverse) (up2 S) (x : Int)) (rbn S.length (visit S f x st).1, up (visit S f x st).2.reverse)
  | 0, x, st, hx, hs, hc, _ => by have := cnt_pos hx hs; omega
  | f + 1, x, st, hx, hs, hc, hL => by
    have hu := cnt_upd hx hs
    refine Ev.succ ?_; simp only [lockstepref06_Walk_visit.f]
    refine Ev.ifp ⟨by omega, by rw [rbn_length]; omega, by rw [up2_length]; omega⟩ ?_
    rw [Int.toNat_natCast, set_rbn]
    have key := lsim h f x hx ((S.getD x []).length) 0 (upd st.1 x, st.2) (by omega) (by omega) (by show cnt _ (upd st.1 x) ≤ f; omega) (by show st.2.length + cnt _ (upd st.1 x) ≤ 1000; omega)
    rw [List.drop_zero] at key
    rw [visit_succ]
    refine key.of_eq ?_
    show _ = (_, up ((steps S f (S.getD x []) (upd st.1 x, st.2)).2 ++ [x]).reverse)
    rw [List.reverse_append, up_append]; rfl
theorem lsim {S : List (List Nat)} (h : Gr S) : ∀ (f x : Nat), x < S.length → ∀ (m i : Nat) (st : Sn × List Nat), i ≤ (S.getD x []).length → (S.getD x []).length - i = m → cnt S.length st.1 ≤ f → st.2.length + cnt S.length st.1 ≤ 1000 →
    Ev (fun k => lockstepref06_Walk_visit.l0 k (rbn S.length st.1) (up st.2.reverse) (up2 S) (x : Int) i) (rbn S.length (steps S f ((S.getD x []).drop i) st).1, [(x : Int)] ++ up (steps S f ((S.getD x []).drop i) st).2.reverse)
  | f, x, hx, 0, i, st, hi, hd, hc, hL => by
    refine Ev.succ ?_; simp only [lockstepref06_Walk_visit.l0]
    rw [rdL_up, up_length]
    refine Ev.ifn (by omega) (Ev.ifp (by rw [up_length, List.length_reverse]; omega) ?_)
    rw [List.drop_eq_nil_of_le (by omega)]
    exact Ev.pure
  | f, x, hx, m + 1, i, st, hi, hd, hc, hL => by
    have hi' : i < (S.getD x []).length := by omega
    have hlen := gr_len h hx
    have hle := h.le
    have hy := (h.row x hx).2 _ (getD_mem (d := 0) hi')
    refine Ev.succ ?_; simp only [lockstepref06_Walk_visit.l0]
    rw [rdL_up, up_length, rd_up, drop_getD _ i 0 hi', steps_cons]
    generalize (S.getD x []).getD i 0 = y at hy
    refine Ev.ifp (by omega) (Ev.ifp ⟨by omega, by omega, by rw [rbn_length]; omega⟩ ?_)
    rw [rd_rbn _ _ hy]
    cases hs : st.1 y with
    | true =>
      refine Ev.ifp rfl ?_
      rw [if_pos rfl]
      exact lsim h f x hx m (i + 1) st (by omega) (by omega) hc hL
    | false =>
      refine Ev.ifn (by decide) (Ev.bind (vsim h f y st hy hs hc hL) ?_)
      rw [if_neg (by decide)]
      have hv := (visit_vis h f y st hy hs hc).1
      obtain ⟨l, e1, _, _, _, e5⟩ := hv.new
      have hc2 : cnt S.length (visit S f y st).1 ≤ cnt S.length st.1 := by omega
      exact lsim h f x hx m (i + 1) (visit S f y st) (by omega) (by omega) (by omega) (by rw [e1, List.length_append]; omega)
end
theorem rorder_ok {S : List (List Nat)} (h : Gr S) {r : Nat} (hr : r < S.length) : Ev (fun k => lockstepref06_Order.f k (up2 S) (up2 (pr S)) (r : Int)) (up (dfs S r)) := by
  have hle := h.le
  unfold lockstepref06_Order.f
  refine Ev.bind (rmay_ok h _) ?_
  refine Ev.ifp (by simp) (Ev.ifn (by omega) (Ev.ifn (by rw [up2_length]; omega) (Ev.ifp (by rw [up2_length]; omega) ?_)))
  have key := vsim h S.length r (none', []) hr rfl (Nat.le_of_eq (cnt_none _)) (by rw [cnt_none]; simp only [List.length_nil]; omega)
  have e : List.replicate (up2 S).length false = rbn S.length none' := by
    rw [up2_length]; unfold rbn none'
    apply List.ext_getElem <;> simp
  rw [e]
  exact Ev.bind key Ev.pure
theorem rorder_out {S : List (List Nat)} (h : Gr S) (p : List (List Int)) (r : Int) (hr : r < 0 ∨ (S.length : Int) ≤ r) : Ev (fun k => lockstepref06_Order.f k (up2 S) p r) [] := by
  unfold lockstepref06_Order.f
  refine Ev.bind (rmay_ok h _) ?_
  cases hb : decide (up2 (pr S) = p) with
  | false => exact Ev.ifn (by decide) Ev.pure
  | true =>
    refine Ev.ifp rfl ?_
    by_cases h0 : r < 0
    · exact Ev.ifp h0 Ev.pure
    · exact Ev.ifn h0 (Ev.ifp (by rw [up2_length]; omega) Ev.pure)
theorem rorder_no {s p : List (List Int)} (r : Int) (hm : Ev (fun k => lockstepref06_May.f k s p) false) : Ev (fun k => lockstepref06_Order.f k s p r) [] := by
  unfold lockstepref06_Order.f
  exact Ev.bind hm (Ev.ifn (by decide) Ev.pure)
end Go.Proofs.Ytokfaaemhniodaa.GP
