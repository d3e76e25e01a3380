/- Plain laws of the document's Ints, Has and Same. No conditions beyond each theorem's own. -/
import Derived.Test.YtokfaaemhniodaaGReach
import Derived.Test.YtokfaaemhniodaaGx14
import Derived.Test.YtokfaaemhniodaaGx15
import Derived.Test.YtokfaaemhniodaaGx17
namespace Go.Proofs.Ytokfaaemhniodaa.GP
open Go.RowKit Go.Proofs.Ytokfaaemhniodaa.G Go.Proofs.YtokfaaemhniodaaW.PrintWords

theorem ints_l0 (d : Nat) : ∀ (i : Nat) (a b : List Int), a.length = b.length → a.length ≤ big → i ≤ a.length → a.length - i = d → Ev (fun k => lockstepref02_Ints.l0 k a b (i : Int)) (decide (a.drop i = b.drop i)) := by
  induction d with
  | zero =>
    intro i a b hl hb hi hd
    refine Ev.succ ?_; simp only [lockstepref02_Ints.l0]
    refine Ev.ifn (by omega) ?_
    rw [List.drop_of_length_le (by omega), List.drop_of_length_le (by omega)]
    exact Ev.pure.of_eq (by simp)
  | succ d ih =>
    intro i a b hl hb hi hd
    have hbb : big = 9223372036854775807 := rfl
    refine Ev.succ ?_; simp only [lockstepref02_Ints.l0]
    refine Ev.ifp (by omega) (Ev.ifp (by omega) (Ev.ifp (by omega) ?_))
    rw [show rd a (i : Int) = a.getD i 0 by simp [rd], show rd b (i : Int) = b.getD i 0 by simp [rd]]
    rw [drop_getD a i 0 (by omega), drop_getD b i 0 (by omega)]
    by_cases h : a.getD i 0 = b.getD i 0
    · refine Ev.ifp h ?_
      rw [wrap_nat (by omega)]
      exact (ih (i + 1) a b hl hb (by omega) (by omega)).of_eq (by rw [h]; simp)
    · refine Ev.ifn h (Ev.pure.of_eq ?_)
      rw [decide_eq_false]
      intro he; injection he with h1 _; exact h h1
theorem ints_ok (a b : List Int) (hb : a.length ≤ big) : Ev (fun k => lockstepref02_Ints.f k a b) (decide (a = b)) := by
  unfold lockstepref02_Ints.f
  by_cases h : a.length = b.length
  · refine Ev.ifp (by omega) ?_
    simpa using ints_l0 a.length 0 a b h hb (by omega) (by omega)
  · refine Ev.ifn (by omega) (Ev.pure.of_eq ?_)
    rw [decide_eq_false]
    intro he; exact h (by rw [he])
theorem has_l0 (x : Int) (d : Nat) : ∀ (i : Nat) (a : List Int), a.length ≤ big → i ≤ a.length → a.length - i = d → Ev (fun k => lockstepref06_Has.l0 k a x (i : Int)) (decide (x ∈ a.drop i)) := by
  induction d with
  | zero =>
    intro i a hb hi hd
    refine Ev.succ ?_; simp only [lockstepref06_Has.l0]
    refine Ev.ifn (by omega) ?_
    rw [List.drop_of_length_le (by omega)]
    exact Ev.pure.of_eq (by simp)
  | succ d ih =>
    intro i a hb hi hd
    have hbb : big = 9223372036854775807 := rfl
    refine Ev.succ ?_; simp only [lockstepref06_Has.l0]
    refine Ev.ifp (by omega) (Ev.ifp (by omega) ?_)
    rw [show rd a (i : Int) = a.getD i 0 by simp [rd]]
    rw [drop_getD a i 0 (by omega)]
    by_cases h : a.getD i 0 = x
    · exact Ev.ifp h (Ev.pure.of_eq (by rw [h]; simp))
    · refine Ev.ifn h ?_
      rw [wrap_nat (by omega)]
      refine (ih (i + 1) a hb (by omega) (by omega)).of_eq ?_
      by_cases hm : x ∈ a.drop (i + 1)
      · rw [decide_eq_true hm, decide_eq_true (List.mem_cons_of_mem _ hm)]
      · rw [decide_eq_false hm, decide_eq_false (fun hc => by
          rcases List.mem_cons.mp hc with e | e
          · exact h e.symm
          · exact hm e)]
theorem has_ok (a : List Int) (x : Int) (hb : a.length ≤ big) : Ev (fun k => lockstepref06_Has.f k a x) (decide (x ∈ a)) := by
  unfold lockstepref06_Has.f
  simpa using has_l0 x a.length 0 a hb (by omega) (by omega)
theorem has_up (l : List Nat) (x : Nat) (hb : l.length ≤ big) : Ev (fun k => lockstepref06_Has.f k (up l) (x : Int)) (decide (x ∈ l)) := by
  refine (has_ok (up l) x (by rw [up_length]; exact hb)).of_eq ?_
  have e : (x : Int) ∈ up l ↔ x ∈ l := by
    simp only [up, List.mem_map]
    constructor
    · rintro ⟨y, hy, e⟩; rw [show x = y by omega]; exact hy
    · intro h; exact ⟨x, h, rfl⟩
  by_cases h : x ∈ l
  · rw [decide_eq_true h, decide_eq_true (e.mpr h)]
  · rw [decide_eq_false h, decide_eq_false (fun hc => h (e.mp hc))]

theorem same_l1 (b a : List (List Int)) (d : List (List Int)) (c : List (List Int)) (hl : a.length = b.length) (hb : a.length ≤ big) (hr : ∀ l ∈ a, l.length ≤ big) (m : Nat) : ∀ i, i ≤ a.length → a.length - i = m →
    Ev (fun k => lockstepref06_Same.l1 k (i : Int) c a d b) (decide (a.drop i = b.drop i)) := by
  have hbb : big = 9223372036854775807 := rfl
  induction m with
  | zero =>
    intro i hi hd
    refine Ev.succ ?_; simp only [lockstepref06_Same.l1]
    refine Ev.ifn (by omega) ?_
    rw [List.drop_of_length_le (by omega), List.drop_of_length_le (by omega)]
    exact Ev.pure.of_eq (by simp)
  | succ m ih =>
    intro i hi hd
    refine Ev.succ ?_; simp only [lockstepref06_Same.l1]
    refine Ev.ifp (by omega) (Ev.ifp (by omega) (Ev.ifp (by omega) ?_))
    rw [show rd_L1 a (i : Int) = a.getD i [] by simp [rd_L1], show rd_L1 b (i : Int) = b.getD i [] by simp [rd_L1]]
    refine Ev.bind (ints_ok _ _ (hr _ (getD_mem (by omega)))) ?_
    rw [drop_getD a i [] (by omega), drop_getD b i [] (by omega)]
    by_cases h : a.getD i [] = b.getD i []
    · refine Ev.ifp (by rw [decide_eq_true h]) ?_
      rw [wrap_nat (by omega)]
      exact (ih (i + 1) (by omega) (by omega)).of_eq (by rw [h]; simp)
    · refine Ev.ifn (by rw [decide_eq_false h]; decide) (Ev.pure.of_eq ?_)
      rw [decide_eq_false]
      intro he; injection he with h1 _; exact h h1
theorem same_l0 (a b c d : List (List Int)) (hl : a.length = c.length) (hb : a.length ≤ big) (hr : ∀ l ∈ a, l.length ≤ big) (hl' : b.length = d.length) (hb' : b.length ≤ big) (hr' : ∀ l ∈ b, l.length ≤ big) (m : Nat) : ∀ i, i ≤ a.length → a.length - i = m →
    Ev (fun k => lockstepref06_Same.l0 k (i : Int) a b c d) (decide (a.drop i = c.drop i ∧ b = d)) := by
  have hbb : big = 9223372036854775807 := rfl
  induction m with
  | zero =>
    intro i hi hd
    refine Ev.succ ?_; simp only [lockstepref06_Same.l0]
    refine Ev.ifn (by omega) ?_
    rw [List.drop_of_length_le (by omega), List.drop_of_length_le (by omega)]
    have := same_l1 d b c a hl' hb' hr' b.length 0 (by omega) (by omega)
    exact this.of_eq (by simp)
  | succ m ih =>
    intro i hi hd
    refine Ev.succ ?_; simp only [lockstepref06_Same.l0]
    refine Ev.ifp (by omega) (Ev.ifp (by omega) (Ev.ifp (by omega) ?_))
    rw [show rd_L1 a (i : Int) = a.getD i [] by simp [rd_L1], show rd_L1 c (i : Int) = c.getD i [] by simp [rd_L1]]
    refine Ev.bind (ints_ok _ _ (hr _ (getD_mem (by omega)))) ?_
    rw [drop_getD a i [] (by omega), drop_getD c i [] (by omega)]
    by_cases h : a.getD i [] = c.getD i []
    · refine Ev.ifp (by rw [decide_eq_true h]) ?_
      rw [wrap_nat (by omega)]
      exact (ih (i + 1) (by omega) (by omega)).of_eq (by rw [h]; simp)
    · refine Ev.ifn (by rw [decide_eq_false h]; decide) (Ev.pure.of_eq ?_)
      rw [decide_eq_false]
      rintro ⟨he, _⟩; injection he with h1 _; exact h h1
theorem same_ok (a b c d : List (List Int)) (hb : a.length ≤ big) (hr : ∀ l ∈ a, l.length ≤ big) (hb' : b.length ≤ big) (hr' : ∀ l ∈ b, l.length ≤ big) : Ev (fun k => lockstepref06_Same.f k a b c d) (decide (a = c ∧ b = d)) := by
  have hbb : big = 9223372036854775807 := rfl
  unfold lockstepref06_Same.f
  have hj : ¬ (a = c ∧ b = d) → Ev (fun k => lockstepref06_Same.j0 k true a b c d) (decide (a = c ∧ b = d)) := by
    intro h
    refine Ev.succ ?_; simp only [lockstepref06_Same.j0]
    exact Ev.ifp trivial (Ev.pure.of_eq (by rw [decide_eq_false h]))
  by_cases h : a.length = c.length
  · refine Ev.ifp (by omega) ?_
    by_cases h' : b.length = d.length
    · rw [show ((b.length : Int) != (d.length : Int)) = false by rw [h']; simp]
      refine Ev.succ ?_; simp only [lockstepref06_Same.j0]
      refine Ev.ifn (by decide) ?_
      have := same_l0 a b c d h hb hr h' hb' hr' a.length 0 (by omega) (by omega)
      exact this.of_eq (by simp)
    · rw [show ((b.length : Int) != (d.length : Int)) = true by simp; omega]
      exact hj (fun hc => h' (by rw [hc.2]))
  · exact Ev.ifn (by omega) (hj (fun hc => h (by rw [hc.1])))
end Go.Proofs.Ytokfaaemhniodaa.GP
