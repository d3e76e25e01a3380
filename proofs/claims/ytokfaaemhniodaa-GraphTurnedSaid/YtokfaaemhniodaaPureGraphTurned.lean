/- GraphTurned, the plain law: turned twice a graph is itself; what a block reaches, turned, reaches it. No conditions. -/
import Derived.Test.YtokfaaemhniodaaGSame
import Derived.Test.YtokfaaemhniodaaGx18
namespace Go.Proofs.Ytokfaaemhniodaa.GP
open Go.RowKit Go.Proofs.Ytokfaaemhniodaa.G Go.Proofs.YtokfaaemhniodaaW.PrintWords Go.Proofs.YtokfaaemhniodaaH

theorem rch_back {S : List (List Nat)} (h : Gr S) {a b : Nat} (ha : a < S.length) (hr : Rch S (-1) a b) : Rch (pr S) (-1) b a := by
  induction hr with
  | base _ => exact .base (by omega)
  | @step x y hx hy _ ih =>
    have hxl := hx.lt h ha
    have hyl := (h.row x hxl).2 y hy
    exact Rch.trans (.step (.base (by omega)) ((mem_pr hyl).mpr ⟨hxl, hy⟩) (by omega)) ih
theorem dfs_back {S : List (List Nat)} (h : Gr S) {a b : Nat} (ha : a < S.length) (hb : b ∈ dfs S a) : a ∈ dfs (pr S) b := by
  have hbl := dfs_lt h ha b hb
  exact (dfs_mem (gr_pr h) (by rw [pr_length]; exact hbl) a).mpr (rch_back h ha ((dfs_mem h ha b).mp hb))
theorem gt_l0 {S : List (List Nat)} (h : Gr S) (d : Nat) : ∀ a, a ≤ S.length → S.length - a = d →
    Ev (fun k => locksteplaw06_GraphTurned.l0 k (up2 S) (a : Int) (up2 S) (up2 (pr S)) (up2 (pr S)) (up2 S)) true := by
  have hle := h.le
  have hbb : big = 9223372036854775807 := rfl
  induction d with
  | zero =>
    intro a ha hd
    refine Ev.succ ?_; simp only [locksteplaw06_GraphTurned.l0]
    refine Ev.ifn (by rw [up2_length]; omega) ?_
    refine Ev.bind (order_out h _ _ (.inr (by rw [up2_length]; omega))) ?_
    refine Ev.bind (ints_ok [] [] (by simp)) ?_
    exact Ev.pure.of_eq (by simp)
  | succ d ih =>
    intro a ha hd
    have ha' : a < S.length := by omega
    have hl := dfs_len h ha'
    refine Ev.succ ?_; simp only [locksteplaw06_GraphTurned.l0]
    refine Ev.ifp (by rw [up2_length]; omega) ?_
    refine Ev.bind (order_ok h ha') ?_
    have l1 : ∀ (m i : Nat), (dfs S a).length - i = m → i ≤ (dfs S a).length → Ev (fun k => locksteplaw06_GraphTurned.l1 k (up2 S) (a : Int) (up (dfs S a)) (i : Int) (up2 S) (up2 (pr S)) (up2 (pr S)) (up2 S)) true := by
      intro m
      induction m with
      | zero =>
        intro i hm hi
        refine Ev.succ ?_; simp only [locksteplaw06_GraphTurned.l1]
        refine Ev.ifn (by rw [up_length]; omega) ?_
        rw [wrap_nat (by omega)]; exact ih (a + 1) (by omega) (by omega)
      | succ m ihm =>
        intro i hm hi
        have hi1 : i < (dfs S a).length := by omega
        have hbm := getD_mem (d := 0) hi1
        refine Ev.succ ?_; simp only [locksteplaw06_GraphTurned.l1]
        rw [rd_up]
        generalize (dfs S a).getD i 0 = b at hbm
        have hb := dfs_lt h ha' b hbm
        have ho := order_ok (gr_pr h) (r := b) (by rw [pr_length]; exact hb)
        rw [pr_pr h] at ho
        have hl2 := dfs_len (gr_pr h) (r := b) (by rw [pr_length]; exact hb)
        have hl3 := (gr_pr h).le
        refine Ev.ifp (by rw [up_length]; omega) (Ev.ifp (by omega) (Ev.bind ho ?_))
        refine Ev.bind (has_up _ a (by omega)) ?_
        rw [decide_eq_true (dfs_back h ha' hbm)]
        refine Ev.ifp rfl ?_
        rw [wrap_nat (by omega)]; exact ihm (i + 1) (by omega) (by omega)
    exact l1 _ 0 rfl (by omega)
theorem graphTurned : locksteplaw06_GraphTurned.Pure := by
  intro l0 hrow
  apply Ev.at
  have hbb : big = 9223372036854775807 := rfl
  have hml : maxLen ≤ big := by decide
  have hb : l0.length ≤ big := Nat.le_trans hrow.1 hml
  unfold locksteplaw06_GraphTurned.f
  refine Ev.bind awake_ev (Ev.ifp rfl ?_)
  have ht : Ev (fun k => locksteplaw06_GraphTurned.j0 k l0 true) true := by
    refine Ev.succ ?_; simp only [locksteplaw06_GraphTurned.j0]; exact Ev.ifp trivial Ev.pure
  by_cases h20 : (l0.length : Int) > 20
  · exact Ev.ifp h20 ht
  · refine Ev.ifn h20 ?_
    obtain ⟨b, h1, h2⟩ := small_ev l0 hb
    refine Ev.bind h1 ?_
    cases b with
    | false => exact ht
    | true =>
      have hr : ∀ l ∈ l0, l.length ≤ big := fun l hl => by have := (h2 rfl).2 l hl; omega
      refine Ev.succ ?_; simp only [locksteplaw06_GraphTurned.j0]
      refine Ev.ifn (by decide) ?_
      cases hg : goodb l0 with
      | false =>
        refine Ev.bind (make_bad hb hr hg) (Ev.ifn (by decide) (Ev.ifp (by simp) ?_))
        refine Ev.bind (may_bad (s := []) (by simp) (by simp) (by decide) []) ?_
        exact Ev.pure
      | true =>
        obtain ⟨S, h, rfl⟩ := good_gr hg
        have hle := h.le; have hpos := h.pos
        refine Ev.bind (make_ok h) (Ev.ifp rfl ?_)
        refine Ev.bind (turned_ok h) ?_
        have h2' := turned_ok (gr_pr h)
        rw [pr_pr h] at h2'
        refine Ev.bind h2' ?_
        have hle2 := (gr_pr h).le
        refine Ev.bind (same_ok (up2 S) (up2 (pr S)) (up2 S) (up2 (pr S)) (by rw [up2_length]; omega) hr (by rw [up2_length]; omega) (fun l hl => by have := gr_rows (gr_pr h) l hl; omega)) ?_
        refine Ev.ifp (by simp) ?_
        refine Ev.bind (may_ok (gr_pr h) (up2 S)) ?_
        rw [pr_pr h, decide_eq_true rfl]
        refine Ev.succ ?_; simp only [locksteplaw06_GraphTurned.j1]
        refine Ev.ifn (by decide) ?_
        exact gt_l0 h S.length 0 (by omega) (by omega)
end Go.Proofs.Ytokfaaemhniodaa.GP
namespace Go.Proofs.Ytokfaaemhniodaa.Pure
theorem GraphTurned : Go.Proofs.Ytokfaaemhniodaa.G.locksteplaw06_GraphTurned.Pure := GP.graphTurned
end Go.Proofs.Ytokfaaemhniodaa.Pure
