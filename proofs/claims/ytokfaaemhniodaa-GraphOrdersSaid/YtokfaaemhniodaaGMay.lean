/- Plain laws of graph.May and of what the graph is turned. No conditions beyond each theorem's own. -/
import Derived.Test.YtokfaaemhniodaaGMake
import Derived.Test.YtokfaaemhniodaaGx7
import Derived.Test.YtokfaaemhniodaaGx22
namespace Go.Proofs.Ytokfaaemhniodaa.GP
open Go.RowKit Go.Proofs.Ytokfaaemhniodaa.G Go.Proofs.YtokfaaemhniodaaW.PrintWords

theorem equal_l0 (d : Nat) : ∀ (i : Nat) (a b : List Int), a.length = b.length → a.length ≤ big → i ≤ a.length → a.length - i = d → Ev (fun k => slices_Equal_int_int.l0 k a b (a.length : Int) (i : Int)) (decide (a.drop i = b.drop i)) := by
  induction d with
  | zero =>
    intro i a b hl hb hi hd
    refine Ev.succ ?_; simp only [slices_Equal_int_int.l0]
    refine Ev.ifn (by omega) ?_
    rw [List.drop_of_length_le (by omega), List.drop_of_length_le (by omega)]
    exact Ev.pure.of_eq (by simp)
  | succ d ih =>
    intro i a b hl hb hi hd
    have hbb : big = 9223372036854775807 := rfl
    refine Ev.succ ?_; simp only [slices_Equal_int_int.l0]
    refine Ev.ifp (by omega) (Ev.ifp (by omega) (Ev.ifp (by omega) (Ev.ifp (by omega) ?_)))
    rw [show rd a (i : Int) = a.getD i 0 by simp [rd], show rd b (i : Int) = b.getD i 0 by simp [rd]]
    rw [drop_getD a i 0 (by omega), drop_getD b i 0 (by omega)]
    by_cases h : a.getD i 0 = b.getD i 0
    · refine Ev.ifp h ?_
      rw [wrap_nat (by omega)]
      exact (ih (i + 1) a b hl hb (by omega) (by omega)).of_eq (by rw [h]; simp)
    · refine Ev.ifn h (Ev.pure.of_eq ?_)
      rw [decide_eq_false]
      intro he; injection he with h1 _; exact h h1
theorem equal_ok (a b : List Int) (hb : a.length ≤ big) : Ev (fun k => slices_Equal_int_int.f k a b) (decide (a = b)) := by
  unfold slices_Equal_int_int.f
  by_cases h : a.length = b.length
  · refine Ev.ifp (by omega) ?_
    simpa using equal_l0 a.length 0 a b h hb (by omega) (by omega)
  · refine Ev.ifn (by omega) (Ev.pure.of_eq ?_)
    rw [decide_eq_false]
    intro he; exact h (by rw [he])
theorem eqf_l0 (d : Nat) : ∀ (i : Nat) (a b : List (List Int)), a.length = b.length → a.length ≤ big → (∀ l ∈ a, l.length ≤ big) → i ≤ a.length → a.length - i = d → Ev (fun k => slices_EqualFunc_int_int_int_int_slices_Equal_int_int.l0 k b a (a.length : Int) (i : Int)) (decide (a.drop i = b.drop i)) := by
  induction d with
  | zero =>
    intro i a b hl hb hr hi hd
    refine Ev.succ ?_; simp only [slices_EqualFunc_int_int_int_int_slices_Equal_int_int.l0]
    refine Ev.ifn (by omega) ?_
    rw [List.drop_of_length_le (by omega), List.drop_of_length_le (by omega)]
    exact Ev.pure.of_eq (by simp)
  | succ d ih =>
    intro i a b hl hb hr hi hd
    have hbb : big = 9223372036854775807 := rfl
    refine Ev.succ ?_; simp only [slices_EqualFunc_int_int_int_int_slices_Equal_int_int.l0]
    refine Ev.ifp (by omega) (Ev.ifp (by omega) (Ev.ifp (by omega) (Ev.ifp (by omega) ?_)))
    rw [show rd_L1 a (i : Int) = a.getD i [] by simp [rd_L1], show rd_L1 b (i : Int) = b.getD i [] by simp [rd_L1]]
    refine Ev.bind (equal_ok _ _ (hr _ (getD_mem (by omega)))) ?_
    rw [drop_getD a i [] (by omega), drop_getD b i [] (by omega)]
    by_cases h : a.getD i [] = b.getD i []
    · refine Ev.ifp (by rw [decide_eq_true h]) ?_
      rw [wrap_nat (by omega)]
      exact (ih (i + 1) a b hl hb hr (by omega) (by omega)).of_eq (by rw [h]; simp)
    · refine Ev.ifn (by rw [decide_eq_false h]; decide) (Ev.pure.of_eq ?_)
      rw [decide_eq_false]
      intro he; injection he with h1 _; exact h h1
theorem eqf_ok (a b : List (List Int)) (hb : a.length ≤ big) (hr : ∀ l ∈ a, l.length ≤ big) : Ev (fun k => slices_EqualFunc_int_int_int_int_slices_Equal_int_int.f k a b) (decide (a = b)) := by
  unfold slices_EqualFunc_int_int_int_int_slices_Equal_int_int.f
  by_cases h : a.length = b.length
  · refine Ev.ifp (by omega) ?_
    simpa using eqf_l0 a.length 0 a b h hb hr (by omega) (by omega)
  · refine Ev.ifn (by omega) (Ev.pure.of_eq ?_)
    rw [decide_eq_false]
    intro he; exact h (by rw [he])

theorem pr_length (S : List (List Nat)) : (pr S).length = S.length := by simp [pr]
theorem pr_getD {S : List (List Nat)} {j : Nat} (hj : j < S.length) : (pr S).getD j [] = (List.range S.length).filter fun i => decide (j ∈ S.getD i []) := getD_map_range _ _ _ _ hj
theorem mem_pr {S : List (List Nat)} {i j : Nat} (hj : j < S.length) : i ∈ (pr S).getD j [] ↔ i < S.length ∧ j ∈ S.getD i [] := by
  rw [pr_getD hj]; simp
theorem gr_pr {S : List (List Nat)} (h : Gr S) : Gr (pr S) := by
  refine ⟨by rw [pr_length]; exact h.pos, by rw [pr_length]; exact h.le, fun i hi => ?_⟩
  rw [pr_length] at hi ⊢
  refine ⟨?_, fun y hy => ((mem_pr hi).mp hy).1⟩
  rw [pr_getD hi]
  exact List.pairwise_lt_range.filter _
theorem sorted_ext : ∀ (a b : List Nat), a.Pairwise (· < ·) → b.Pairwise (· < ·) → (∀ x, x ∈ a ↔ x ∈ b) → a = b := by
  intro a
  induction a with
  | nil =>
    intro b _ _ h
    cases b with
    | nil => rfl
    | cons y b => exact absurd ((h y).mpr (List.mem_cons_self ..)) (by simp)
  | cons x a ih =>
    intro b ha hb h
    cases b with
    | nil => exact absurd ((h x).mp (List.mem_cons_self ..)) (by simp)
    | cons y b =>
      obtain ⟨ha1, ha2⟩ := List.pairwise_cons.mp ha
      obtain ⟨hb1, hb2⟩ := List.pairwise_cons.mp hb
      have e : x = y := by
        rcases List.mem_cons.mp ((h x).mp (List.mem_cons_self ..)) with e | e
        · exact e
        · rcases List.mem_cons.mp ((h y).mpr (List.mem_cons_self ..)) with e' | e'
          · exact e'.symm
          · have := hb1 x e; have := ha1 y e'; omega
      subst e
      rw [ih b ha2 hb2 (fun z => ⟨fun hz => ?_, fun hz => ?_⟩)]
      · rcases List.mem_cons.mp ((h z).mp (List.mem_cons_of_mem _ hz)) with e | e
        · have := ha1 z hz; omega
        · exact e
      · rcases List.mem_cons.mp ((h z).mpr (List.mem_cons_of_mem _ hz)) with e | e
        · have := hb1 z hz; omega
        · exact e
theorem pr_pr {S : List (List Nat)} (h : Gr S) : pr (pr S) = S := by
  have h1 := gr_pr h; have h2 := gr_pr h1
  refine ext_getD [] (by rw [pr_length, pr_length]) (fun i hi => ?_)
  rw [pr_length, pr_length] at hi
  refine sorted_ext _ _ (h2.row i (by rw [pr_length, pr_length]; exact hi)).1 (h.row i hi).1 (fun x => ?_)
  rw [mem_pr (by rw [pr_length]; exact hi), pr_length]
  constructor
  · rintro ⟨hx, hm⟩; exact ((mem_pr hx).mp hm).2
  · intro hm
    have hx := (h.row i hi).2 x hm
    exact ⟨hx, (mem_pr hx).mpr ⟨hi, hm⟩⟩
theorem gr_rows {S : List (List Nat)} (h : Gr S) : ∀ l ∈ up2 S, l.length ≤ 64 := by
  intro l hl
  obtain ⟨r, hr, rfl⟩ := List.mem_map.mp hl
  obtain ⟨i, hi, hri⟩ := List.getElem_of_mem hr
  have hsub := gr_len h hi
  rw [List.getD_eq_getElem?_getD, List.getElem?_eq_getElem hi, hri, Option.getD_some] at hsub
  rw [up_length]; exact hsub

theorem may_ok {S : List (List Nat)} (h : Gr S) (p : List (List Int)) : Ev (fun k => graph_May.f k (up2 S) p) (decide (up2 (pr S) = p)) := by
  unfold graph_May.f
  refine Ev.bind (make_ok h) ?_
  refine Ev.ifp rfl ?_
  have hle := (gr_pr h).le
  exact Ev.bind (eqf_ok _ _ (by rw [up2_length]; simp only [big]; omega) (fun l hl => by have := gr_rows (gr_pr h) l hl; simp only [big]; omega)) Ev.pure
theorem may_bad {s : List (List Int)} (hb : s.length ≤ big) (hr : ∀ l ∈ s, l.length ≤ big) (h : goodb s = false) (p : List (List Int)) : Ev (fun k => graph_May.f k s p) false := by
  unfold graph_May.f
  refine Ev.bind (make_bad hb hr h) ?_
  exact Ev.ifn (by decide) Ev.pure
theorem turned_ok {S : List (List Nat)} (h : Gr S) : Ev (fun k => graph_Turned.f k (up2 S) (up2 (pr S))) (up2 (pr S), up2 S) := by
  unfold graph_Turned.f
  refine Ev.bind (may_ok h _) ?_
  refine Ev.ifp (by simp) ?_
  refine Ev.bind (make_ok (gr_pr h)) ?_
  rw [pr_pr h]; exact Ev.pure
end Go.Proofs.Ytokfaaemhniodaa.GP
