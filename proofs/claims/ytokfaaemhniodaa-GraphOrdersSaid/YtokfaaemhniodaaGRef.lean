/- Plain laws of the document's Make and May: they answer as graph.Make and graph.May. No conditions beyond each theorem's own. -/
import Derived.Test.YtokfaaemhniodaaGSame
import Derived.Test.YtokfaaemhniodaaGx16
import Derived.Test.YtokfaaemhniodaaGx18
namespace Go.Proofs.Ytokfaaemhniodaa.GP
open Go.RowKit Go.Proofs.Ytokfaaemhniodaa.G Go.Proofs.YtokfaaemhniodaaW.PrintWords

/-- The ways back when blocks below i are done, and of block i those from blocks below m. -/
def bkAt (S : List (List Nat)) (i m j : Nat) : List Nat := if j < i then (List.range S.length).filter (fun a => decide (j ∈ S.getD a [])) else if j = i then (List.range m).filter (fun a => decide (j ∈ S.getD a [])) else []
def bkI (S : List (List Nat)) (i m : Nat) : List (List Int) := (List.range S.length).map fun j => up (bkAt S i m j)
@[simp] theorem bkI_length (S : List (List Nat)) (i m : Nat) : (bkI S i m).length = S.length := by simp [bkI]
theorem bkI_succ (S : List (List Nat)) (i : Nat) : bkI S i S.length = bkI S (i + 1) 0 := by
  unfold bkI
  refine List.map_congr_left (fun j _ => ?_)
  congr 1
  unfold bkAt
  by_cases h1 : j < i
  · rw [if_pos h1, if_pos (by omega)]
  · rw [if_neg h1]
    by_cases h2 : j = i
    · rw [if_pos h2, if_pos (by omega)]
    · rw [if_neg h2, if_neg (by omega)]
      split <;> rfl
theorem bkI_end (S : List (List Nat)) : bkI S S.length 0 = up2 (pr S) := by
  simp only [bkI, pr, up2, List.map_map]
  refine List.map_congr_left (fun j hj => ?_)
  have := List.mem_range.mp hj
  simp [bkAt, this]
theorem rmake_l3 {S : List (List Nat)} (h : Gr S) (i : Nat) (hi : i < S.length) (v : List (List Int) × List (List Int) × Int)
    (H : Ev (fun k => lockstepref06_Make.l2 k (up2 S) (S.length : Int) ((i + 1 : Nat) : Int) (up2 S) (bkI S (i + 1) 0)) v) (d : Nat) :
    ∀ m, m ≤ S.length → S.length - m = d → Ev (fun k => lockstepref06_Make.l3 k (up2 S) (S.length : Int) (i : Int) (m : Int) (up2 S) (bkI S i m)) v := by
  have hle := h.le
  have hbb : big = 9223372036854775807 := rfl
  induction d with
  | zero =>
    intro m hm hd
    refine Ev.succ ?_; simp only [lockstepref06_Make.l3]
    refine Ev.ifn (by omega) ?_
    rw [wrap_nat (by omega), show m = S.length by omega, bkI_succ]
    exact H
  | succ d ih =>
    intro m hm hd
    have hm1 : m < S.length := by omega
    have hlen := gr_len h hm1
    refine Ev.succ ?_; simp only [lockstepref06_Make.l3]
    refine Ev.ifp (by omega) (Ev.ifp (by omega) (Ev.ifp (by rw [up2_length]; omega) ?_))
    rw [rdL_up]
    refine Ev.bind (has_up _ i (by omega)) ?_
    by_cases hc : i ∈ S.getD m []
    · rw [decide_eq_true hc]
      have hrow : rd_L1 (bkI S i m) (i : Int) = up (bkAt S i m i) := by
        simp only [rd_L1, Int.toNat_natCast, bkI]
        exact getD_map_range _ _ _ _ hi
      have hpl : (bkAt S i m i).length ≤ 64 := by
        unfold bkAt; rw [if_neg (by omega), if_pos rfl]
        have := List.length_filter_le (fun a => decide (i ∈ S.getD a [])) (List.range m)
        rw [List.length_range] at this; omega
      refine Ev.ifp rfl (Ev.ifp (by omega) (Ev.ifp (by rw [bkI_length]; omega) ?_))
      rw [hrow]
      refine Ev.ifp (by rw [up_length]; omega) ?_
      have hset : (bkI S i m).set i (up (bkAt S i m i) ++ [(m : Int)]) = bkI S i (m + 1) := by
        refine set_map_range _ _ _ _ _ ?_ (fun j hj => ?_)
        · unfold bkAt; rw [if_neg (by omega), if_pos rfl, if_neg (by omega), if_pos rfl, List.range_succ, List.filter_append, List.filter_cons_of_pos (by simpa using hc)]
          simp [up]
        · unfold bkAt
          by_cases h1 : j < i
          · rw [if_pos h1, if_pos h1]
          · rw [if_neg h1, if_neg h1, if_neg hj, if_neg hj]
      rw [Int.toNat_natCast, hset, wrap_nat (by omega)]
      exact ih (m + 1) (by omega) (by omega)
    · rw [decide_eq_false hc]
      refine Ev.ifn (by decide) ?_
      have hset : bkI S i m = bkI S i (m + 1) := by
        unfold bkI
        refine List.map_congr_left (fun j _ => ?_)
        congr 1
        unfold bkAt
        by_cases h1 : j < i
        · rw [if_pos h1, if_pos h1]
        · rw [if_neg h1, if_neg h1]
          by_cases h2 : j = i
          · subst h2
            rw [if_pos rfl, if_pos rfl, List.range_succ, List.filter_append, List.filter_cons_of_neg (by simpa using hc)]
            simp
          · rw [if_neg h2, if_neg h2]
      rw [hset, wrap_nat (by omega)]
      exact ih (m + 1) (by omega) (by omega)
theorem rmake_l2 {S : List (List Nat)} (h : Gr S) (d : Nat) : ∀ i, i ≤ S.length → S.length - i = d → Ev (fun k => lockstepref06_Make.l2 k (up2 S) (S.length : Int) (i : Int) (up2 S) (bkI S i 0)) (up2 S, up2 (pr S), 0) := by
  have hle := h.le
  induction d with
  | zero =>
    intro i hi hd
    refine Ev.succ ?_; simp only [lockstepref06_Make.l2]
    refine Ev.ifn (by omega) ?_
    rw [show i = S.length by omega, bkI_end]; exact Ev.pure
  | succ d ih =>
    intro i hi hd
    refine Ev.succ ?_; simp only [lockstepref06_Make.l2]
    refine Ev.ifp (by omega) ?_
    exact rmake_l3 h i (by omega) _ (ih (i + 1) (by omega) (by omega)) _ 0 (by omega) rfl
/-- From place j on, each number in the list is below n and greater than the one ahead. -/
def okFrom (n : Int) (l : List Int) (j : Nat) : Bool := rsg n (if j = 0 then -1 else l.getD (j - 1) 0) (l.drop j)
theorem okFrom_step (n : Int) (l : List Int) (j : Nat) (hj : j < l.length) : okFrom n l j = (if l.getD j 0 ≤ (if j = 0 then -1 else l.getD (j - 1) 0) then false else if l.getD j 0 ≥ n then false else okFrom n l (j + 1)) := by
  unfold okFrom
  rw [drop_getD l j 0 hj]
  simp only [rsg, Nat.succ_ne_zero, if_false, Nat.add_sub_cancel]
theorem rmake_l1 (s : List (List Int)) (hs : s.length ≤ 64) (i : Nat) (hi : i < s.length) (hl : (s.getD i []).length ≤ big) (v : List (List Int) × List (List Int) × Int) (d : Nat) :
    ∀ j, j ≤ (s.getD i []).length → (s.getD i []).length - j = d → (0 < j → 0 ≤ (s.getD i []).getD (j - 1) 0) →
    (okFrom (s.length : Int) (s.getD i []) j = true → Ev (fun k => lockstepref06_Make.l0 k s (s.length : Int) ((i + 1 : Nat) : Int)) v) → (okFrom (s.length : Int) (s.getD i []) j = false → v = ([], [], 5)) →
    Ev (fun k => lockstepref06_Make.l1 k s (s.length : Int) (i : Int) (j : Int)) v := by
  have hbb : big = 9223372036854775807 := rfl
  have hrd : rd_L1 s (i : Int) = s.getD i [] := by simp [rd_L1]
  induction d with
  | zero =>
    intro j hj hd hp H1 H2
    refine Ev.succ ?_; simp only [lockstepref06_Make.l1]
    rw [hrd]
    refine Ev.ifp (by omega) (Ev.ifp (by omega) (Ev.ifn (by omega) ?_))
    rw [wrap_nat (by omega)]
    refine H1 ?_
    unfold okFrom; rw [List.drop_of_length_le (by omega)]; rfl
  | succ d ih =>
    intro j hj hd hp H1 H2
    have hj1 : j < (s.getD i []).length := by omega
    have hrx : rd (s.getD i []) (j : Int) = (s.getD i []).getD j 0 := by simp [rd]
    have hok := okFrom_step (s.length : Int) (s.getD i []) j hj1
    have hnext := ih (j + 1) (by omega) (by omega)
    rw [Nat.add_sub_cancel] at hnext
    refine Ev.succ ?_; simp only [lockstepref06_Make.l1]
    rw [hrd, hrx, wrap_nat (by omega)]
    refine Ev.ifp (by omega) (Ev.ifp (by omega) (Ev.ifp (by omega) (Ev.ifp (by omega) ?_)))
    generalize (s.getD i []).getD j 0 = x at hok hnext
    by_cases hx : x < 0
    · refine Ev.ifp hx (Ev.pure.of_eq (H2 ?_).symm)
      rw [hok, if_pos]
      split
      · omega
      · have := hp (by omega); omega
    · refine Ev.ifn hx ?_
      by_cases hx2 : x ≥ (s.length : Int)
      · refine Ev.ifp hx2 (Ev.pure.of_eq (H2 ?_).symm)
        rw [hok, if_pos hx2]
        exact ite_self _
      · refine Ev.ifn hx2 ?_
        by_cases h0 : j = 0
        · subst h0
          refine Ev.ifn (by omega) ?_
          rw [if_pos rfl, if_neg (by omega), if_neg hx2] at hok
          exact hnext (fun _ => by omega) (fun h => H1 (by rw [hok]; exact h)) (fun h => H2 (by rw [hok]; exact h))
        · refine Ev.ifp (by omega) ?_
          have ew : wrap64 ((j : Int) - 1) = ((j - 1 : Nat) : Int) := by rw [wrap_id (by omega) (by omega)]; omega
          have hrp : rd (s.getD i []) ((j - 1 : Nat) : Int) = (s.getD i []).getD (j - 1) 0 := by simp [rd]
          rw [ew, hrp]
          rw [if_neg h0] at hok
          refine Ev.ifp (by omega) (Ev.ifp (by omega) ?_)
          by_cases hx3 : x ≤ (s.getD i []).getD (j - 1) 0
          · refine Ev.ifp hx3 (Ev.pure.of_eq (H2 ?_).symm)
            rw [hok, if_pos hx3]
          · refine Ev.ifn hx3 ?_
            rw [if_neg hx3, if_neg hx2] at hok
            exact hnext (fun _ => by omega) (fun h => H1 (by rw [hok]; exact h)) (fun h => H2 (by rw [hok]; exact h))
theorem rmake_l0 (s : List (List Int)) (hs : s.length ≤ 64) (hr : ∀ l ∈ s, l.length ≤ big) (v : List (List Int) × List (List Int) × Int)
    (H1 : s.all (rsg (s.length : Int) (-1)) = true → Ev (fun k => lockstepref06_Make.l2 k s (s.length : Int) 0 s (List.replicate s.length [])) v) (H2 : s.all (rsg (s.length : Int) (-1)) = false → v = ([], [], 5)) (d : Nat) :
    ∀ i, i ≤ s.length → s.length - i = d → (s.take i).all (rsg (s.length : Int) (-1)) = true → Ev (fun k => lockstepref06_Make.l0 k s (s.length : Int) (i : Int)) v := by
  have hbb : big = 9223372036854775807 := rfl
  induction d with
  | zero =>
    intro i hi hd ha
    refine Ev.succ ?_; simp only [lockstepref06_Make.l0]
    refine Ev.ifn (by omega) (Ev.ifp (by omega) (Ev.ifp (by omega) ?_))
    rw [Int.toNat_natCast]
    exact H1 (by rw [List.take_of_length_le (by omega)] at ha; exact ha)
  | succ d ih =>
    intro i hi hd ha
    have hi1 : i < s.length := by omega
    refine Ev.succ ?_; simp only [lockstepref06_Make.l0]
    refine Ev.ifp (by omega) ?_
    have h0 : okFrom (s.length : Int) (s.getD i []) 0 = rsg (s.length : Int) (-1) (s.getD i []) := by unfold okFrom; rw [if_pos rfl, List.drop_zero]
    refine rmake_l1 s hs i hi1 (hr _ (getD_mem hi1)) v _ 0 (by omega) rfl (fun h => by omega) (fun h => ?_) (fun h => ?_)
    · refine ih (i + 1) (by omega) (by omega) ?_
      rw [take_getD s i [] hi1, List.all_append, ha]
      simp only [List.all_cons, List.all_nil, Bool.true_and, Bool.and_true]
      rw [← h0]; exact h
    · refine H2 ?_
      rw [h0] at h
      cases hq : s.all (rsg (s.length : Int) (-1)) with
      | false => rfl
      | true => have := List.all_eq_true.mp hq _ (getD_mem (d := []) hi1); rw [h] at this; cases this
theorem rmake_ok {S : List (List Nat)} (h : Gr S) : Ev (fun k => lockstepref06_Make.f k (up2 S)) (up2 S, up2 (pr S), 0) := by
  have hle := h.le; have hpos := h.pos
  have hbb : big = 9223372036854775807 := rfl
  have hg := gr_good h
  simp only [goodb, Bool.and_eq_true, decide_eq_true_eq] at hg
  unfold lockstepref06_Make.f
  refine Ev.ifn (by rw [up2_length]; omega) ?_
  rw [decide_eq_false (by rw [up2_length]; omega)]
  refine Ev.succ ?_; simp only [lockstepref06_Make.j0]
  refine Ev.ifn (by decide) ?_
  refine rmake_l0 (up2 S) (by rw [up2_length]; exact hle) (fun l hl => by have := gr_rows h l hl; omega) _ (fun _ => ?_) (fun hf => ?_) _ 0 (by omega) rfl (by simp)
  · have e : List.replicate (up2 S).length ([] : List Int) = bkI S 0 0 := by
      rw [up2_length]
      apply List.ext_getElem
      · simp
      · intro j h1 h2; simp [bkI, bkAt]
    rw [e, up2_length]
    exact rmake_l2 h S.length 0 (by omega) (by omega)
  · rw [hg.2.2] at hf; cases hf
theorem rmake_bad {s : List (List Int)} (hr : ∀ l ∈ s, l.length ≤ big) (h : goodb s = false) : Ev (fun k => lockstepref06_Make.f k s) ([], [], 5) := by
  unfold lockstepref06_Make.f
  have hj : ∀ n, Ev (fun k => lockstepref06_Make.j0 k s n true) (([] : List (List Int)), ([] : List (List Int)), (5 : Int)) := by
    intro n; refine Ev.succ ?_; simp only [lockstepref06_Make.j0]; exact Ev.ifp trivial Ev.pure
  by_cases h1 : (s.length : Int) = 0
  · exact Ev.ifp h1 (hj _)
  · refine Ev.ifn h1 ?_
    by_cases h2 : (s.length : Int) > 64
    · rw [decide_eq_true h2]; exact hj _
    · rw [decide_eq_false h2]
      refine Ev.succ ?_; simp only [lockstepref06_Make.j0]
      refine Ev.ifn (by decide) ?_
      have e : s.all (rsg (s.length : Int) (-1)) = false := by
        simp only [goodb] at h
        rw [decide_eq_true (by omega), decide_eq_true (by omega), Bool.true_and, Bool.true_and] at h
        exact h
      exact rmake_l0 s (by omega) hr _ (fun ht => by rw [e] at ht; cases ht) (fun _ => rfl) _ 0 (by omega) rfl (by simp)
theorem rmay_ok {S : List (List Nat)} (h : Gr S) (p : List (List Int)) : Ev (fun k => lockstepref06_May.f k (up2 S) p) (decide (up2 (pr S) = p)) := by
  have hbb : big = 9223372036854775807 := rfl
  have hle := h.le
  unfold lockstepref06_May.f
  refine Ev.bind (rmake_ok h) (Ev.ifp rfl ?_)
  have hle2 := (gr_pr h).le
  refine Ev.bind (same_ok (up2 S) (up2 (pr S)) (up2 S) p (by rw [up2_length]; omega) (fun l hl => by have := gr_rows h l hl; omega) (by rw [up2_length]; omega) (fun l hl => by have := gr_rows (gr_pr h) l hl; omega)) ?_
  exact Ev.pure.of_eq (by simp)
theorem rmay_bad {s : List (List Int)} (hr : ∀ l ∈ s, l.length ≤ big) (h : goodb s = false) (p : List (List Int)) : Ev (fun k => lockstepref06_May.f k s p) false := by
  unfold lockstepref06_May.f
  refine Ev.bind (rmake_bad hr h) ?_
  exact Ev.ifn (by decide) Ev.pure
end Go.Proofs.Ytokfaaemhniodaa.GP
