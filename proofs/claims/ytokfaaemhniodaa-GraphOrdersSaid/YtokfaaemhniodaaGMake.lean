/- Plain laws of graph.Make and graph.May. No conditions beyond each theorem's own. -/
import Derived.Test.YtokfaaemhniodaaGEv
import Derived.Test.YtokfaaemhniodaaGx4
import Derived.Test.YtokfaaemhniodaaGx7
namespace Go.Proofs.Ytokfaaemhniodaa.GP
open Go.RowKit Go.Proofs.Ytokfaaemhniodaa.G Go.Proofs.YtokfaaemhniodaaW.PrintWords

/-- Each number greater than the one ahead, and below n. -/
def rsg (n : Int) : Int → List Int → Bool
  | _, [] => true
  | last, x :: xs => if x ≤ last then false else if x ≥ n then false else rsg n x xs

def big : Nat := 9223372036854775807

theorem rising_l0 (d : Nat) : ∀ (i : Nat) (n last : Int) (l : List Int), l.length ≤ big → i ≤ l.length → l.length - i = d → Ev (fun k => graph_rising.l0 k n last l (l.length : Int) (i : Int)) (rsg n last (l.drop i)) := by
  induction d with
  | zero =>
    intro i n last l hb hi hd
    refine Ev.succ ?_; simp only [graph_rising.l0]
    rw [List.drop_of_length_le (by omega)]
    exact Ev.ifn (by omega) Ev.pure
  | succ d ih =>
    intro i n last l hb hi hd
    have h1 : i < l.length := by omega
    have hbb : big = 9223372036854775807 := rfl
    refine Ev.succ ?_; simp only [graph_rising.l0]
    refine Ev.ifp (by omega) (Ev.ifp (by omega) (Ev.ifp (by omega) ?_))
    rw [drop_getD l i 0 h1, show rd l (i : Int) = l.getD i 0 by simp [rd]]
    simp only [rsg]
    split
    · exact Ev.pure
    · split
      · exact Ev.pure
      · rw [wrap_nat (by omega)]
        exact ih (i + 1) _ _ l hb (by omega) (by omega)
theorem make1_ok (l : List Int) (n : Int) (h : l.length ≤ big) : Ev (fun k => graph_Make_1.f k l n) (!rsg n (-1) l) := by
  unfold graph_Make_1.f graph_rising.f
  exact Ev.bind (a := rsg n (-1) l) (by simpa using rising_l0 l.length 0 n (-1) l h (by omega) (by omega)) Ev.pure
theorem index_l0 (d : Nat) : ∀ (i : Nat) (n : Int) (s : List (List Int)), s.length ≤ big → (∀ l ∈ s, l.length ≤ big) → i ≤ s.length → s.length - i = d →
    ∃ v, Ev (fun k => slices_IndexFunc_int_int_graph_Make_1.l0 k s (s.length : Int) (i : Int) n) v ∧ decide (v ≥ 0) = (s.drop i).any (fun l => !rsg n (-1) l) := by
  induction d with
  | zero =>
    intro i n s hb hr hi hd
    refine ⟨-1, Ev.succ ?_, by rw [List.drop_of_length_le (by omega)]; rfl⟩
    simp only [slices_IndexFunc_int_int_graph_Make_1.l0]
    exact Ev.ifn (by omega) Ev.pure
  | succ d ih =>
    intro i n s hb hr hi hd
    have h1 : i < s.length := by omega
    have hbb : big = 9223372036854775807 := rfl
    have hrd : rd_L1 s (i : Int) = s.getD i [] := by simp [rd_L1]
    rw [drop_getD s i [] h1, List.any_cons]
    cases hv : rsg n (-1) (s.getD i []) with
    | false =>
      refine ⟨(i : Int), Ev.succ ?_, by simp⟩
      simp only [slices_IndexFunc_int_int_graph_Make_1.l0]
      refine Ev.ifp (by omega) (Ev.ifp (by omega) (Ev.ifp (by omega) ?_))
      refine Ev.bind (make1_ok _ n (by rw [hrd]; exact hr _ (getD_mem h1))) ?_
      rw [hrd, hv]
      exact Ev.ifp rfl Ev.pure
    | true =>
      obtain ⟨v, he, hd'⟩ := ih (i + 1) n s hb hr (by omega) (by omega)
      refine ⟨v, Ev.succ ?_, by simpa using hd'⟩
      simp only [slices_IndexFunc_int_int_graph_Make_1.l0]
      refine Ev.ifp (by omega) (Ev.ifp (by omega) (Ev.ifp (by omega) ?_))
      refine Ev.bind (make1_ok _ n (by rw [hrd]; exact hr _ (getD_mem h1))) ?_
      rw [hrd, hv]
      refine Ev.ifn (by decide) ?_
      rw [wrap_nat (by omega)]; exact he
theorem contains_ok (s : List (List Int)) (n : Int) (hb : s.length ≤ big) (hr : ∀ l ∈ s, l.length ≤ big) : Ev (fun k => slices_ContainsFunc_int_int_graph_Make_1.f k s n) (s.any (fun l => !rsg n (-1) l)) := by
  obtain ⟨v, he, hd⟩ := index_l0 s.length 0 n s hb hr (by omega) (by omega)
  unfold slices_ContainsFunc_int_int_graph_Make_1.f slices_IndexFunc_int_int_graph_Make_1.f
  have hd' : decide (v ≥ 0) = s.any (fun l => !rsg n (-1) l) := by simpa using hd
  exact (Ev.bind (h := fun _ t => some (decide (t ≥ 0))) (by simpa using he) Ev.pure).of_eq hd'

/-- May these lists be a graph's ways on? -/
def goodb (s : List (List Int)) : Bool := decide (1 ≤ s.length) && (decide (s.length ≤ 64) && s.all (rsg (s.length : Int) (-1)))
/-- A graph's ways on. -/
structure Gr (S : List (List Nat)) : Prop where
  pos : 0 < S.length
  le : S.length ≤ 64
  row : ∀ i, i < S.length → (S.getD i []).Pairwise (· < ·) ∧ ∀ y ∈ S.getD i [], y < S.length
/-- Where blocks come from. -/
def pr (S : List (List Nat)) : List (List Nat) := (List.range S.length).map fun j => (List.range S.length).filter fun i => decide (j ∈ S.getD i [])

theorem rsg_spec : ∀ (l : List Int) (n last : Int), rsg n last l = true → l.Pairwise (· < ·) ∧ (∀ x ∈ l, last < x ∧ x < n) := by
  intro l
  induction l with
  | nil => intro n last _; simp
  | cons x l ih =>
    intro n last h
    simp only [rsg] at h
    split at h
    · cases h
    · split at h
      · cases h
      · obtain ⟨h1, h2⟩ := ih n x h
        refine ⟨List.pairwise_cons.mpr ⟨fun y hy => (h2 y hy).1, h1⟩, fun y hy => ?_⟩
        rcases List.mem_cons.mp hy with rfl | hy
        · omega
        · have := h2 y hy; omega
theorem rsg_of : ∀ (l : List Int) (n last : Int), l.Pairwise (· < ·) → (∀ x ∈ l, last < x ∧ x < n) → rsg n last l = true := by
  intro l
  induction l with
  | nil => intro n last _ _; rfl
  | cons x l ih =>
    intro n last h h2
    have h3 := h2 x (List.mem_cons_self ..)
    simp only [rsg]
    rw [if_neg (by omega), if_neg (by omega)]
    obtain ⟨h4, h5⟩ := List.pairwise_cons.mp h
    exact ih n x h5 (fun y hy => ⟨h4 y hy, (h2 y (List.mem_cons_of_mem _ hy)).2⟩)
theorem good_gr {s : List (List Int)} (h : goodb s = true) : ∃ S, Gr S ∧ s = up2 S := by
  simp only [goodb, Bool.and_eq_true, decide_eq_true_eq, List.all_eq_true] at h
  obtain ⟨h1, h2, h3⟩ := h
  have hr : ∀ l ∈ s, up (l.map Int.toNat) = l := by
    intro l hl
    have := rsg_spec l _ _ (h3 l hl)
    simp only [up, List.map_map]
    conv => rhs; rw [← List.map_id l]
    exact List.map_congr_left (fun x hx => by have := (this.2 x hx).1; simp; omega)
  have hs : up2 (s.map (fun l => l.map Int.toNat)) = s := by
    simp only [up2, List.map_map]
    conv => rhs; rw [← List.map_id s]
    exact List.map_congr_left (fun l hl => hr l hl)
  refine ⟨s.map (fun l => l.map Int.toNat), ⟨by simp; omega, by simpa using h2, fun i hi => ?_⟩, hs.symm⟩
  have hi' : i < s.length := by simpa using hi
  have hl := getD_mem (d := []) hi'
  have hq : (s.map (fun l => l.map Int.toNat)).getD i [] = (s.getD i []).map Int.toNat := by
    simp only [List.getD_eq_getElem?_getD, List.getElem?_map, List.getElem?_eq_getElem hi']; rfl
  have h4 := rsg_spec _ _ _ (h3 _ hl)
  rw [hq]
  refine ⟨List.pairwise_map.mpr (h4.1.imp_of_mem (fun ha hb hab => by have := h4.2 _ ha; have := h4.2 _ hb; omega)), fun y hy => ?_⟩
  obtain ⟨x, hx, rfl⟩ := List.mem_map.mp hy
  have := h4.2 x hx
  simp; omega
theorem gr_good {S : List (List Nat)} (h : Gr S) : goodb (up2 S) = true := by
  simp only [goodb, Bool.and_eq_true, decide_eq_true_eq, List.all_eq_true, up2_length]
  refine ⟨h.pos, h.le, fun l hl => ?_⟩
  obtain ⟨r, hr, rfl⟩ := List.mem_map.mp hl
  obtain ⟨i, hi, hri⟩ := List.getElem_of_mem hr
  have h2 := h.row i hi
  rw [List.getD_eq_getElem?_getD, List.getElem?_eq_getElem hi, hri] at h2
  simp only [Option.getD_some] at h2
  refine rsg_of _ _ _ (List.pairwise_map.mpr (h2.1.imp (fun h => by omega))) (fun x hx => ?_)
  obtain ⟨y, hy, rfl⟩ := List.mem_map.mp hx
  have := h2.2 y hy; omega

theorem pw_len (n : Nat) : ∀ (l : List Nat) (lo : Nat), l.Pairwise (· < ·) → (∀ x ∈ l, lo ≤ x ∧ x < n) → lo ≤ n → l.length + lo ≤ n := by
  intro l
  induction l with
  | nil => intro lo _ _ h; simpa using h
  | cons x l ih =>
    intro lo h h2 hlo
    obtain ⟨h4, h5⟩ := List.pairwise_cons.mp h
    have h3 := h2 x (List.mem_cons_self ..)
    have := ih (x + 1) h5 (fun y hy => ⟨h4 y hy, (h2 y (List.mem_cons_of_mem _ hy)).2⟩) (by omega)
    simp only [List.length_cons]; omega
theorem gr_len {S : List (List Nat)} (h : Gr S) {i : Nat} (hi : i < S.length) : (S.getD i []).length ≤ 64 := by
  have := pw_len S.length _ 0 (h.row i hi).1 (fun x hx => ⟨Nat.zero_le _, (h.row i hi).2 x hx⟩) (Nat.zero_le _)
  have := h.le; omega
/-! #### the ways back -/
theorem gr_nodup {S : List (List Nat)} (h : Gr S) {i : Nat} (hi : i < S.length) : (S.getD i []).Nodup := (h.row i hi).1.imp (fun h => Nat.ne_of_lt h)
/-- The ways back when i rows are gone through, and m of row i. -/
def prAt (S : List (List Nat)) (i m j : Nat) : List Nat := (List.range i).filter (fun i => decide (j ∈ S.getD i [])) ++ if j ∈ (S.getD i []).take m then [i] else []
def prI (S : List (List Nat)) (i m : Nat) : List (List Int) := (List.range S.length).map fun j => up (prAt S i m j)
theorem prI_succ (S : List (List Nat)) (i : Nat) : prI S i (S.getD i []).length = prI S (i + 1) 0 := by
  unfold prI
  refine List.map_congr_left (fun j _ => ?_)
  simp only [prAt, List.take_length, List.take_zero, List.range_succ, List.filter_append, List.not_mem_nil, if_false, List.append_nil]
  congr 2
  by_cases hj : j ∈ S.getD i []
  · rw [if_pos hj, List.filter_cons_of_pos (by simpa using hj)]; rfl
  · rw [if_neg hj, List.filter_cons_of_neg (by simpa using hj)]; rfl
theorem preds_end {S : List (List Nat)} : prI S S.length 0 = up2 (pr S) := by
  simp only [prI, pr, up2, List.map_map]
  refine List.map_congr_left (fun j _ => ?_)
  simp [prAt]
theorem preds_l1 {S : List (List Nat)} (h : Gr S) (i : Nat) (hi : i < S.length) (v : List (List Int)) (H : Ev (fun k => graph_preds.l0 k (prI S (i + 1) 0) (up2 S) (S.length : Int) ((i + 1 : Nat) : Int)) v) (d : Nat) :
    ∀ m, m ≤ (S.getD i []).length → (S.getD i []).length - m = d → Ev (fun k => graph_preds.l1 k (prI S i m) (i : Int) (up2 S) (S.length : Int) (i : Int) (up (S.getD i [])) ((S.getD i []).length : Int) (m : Int)) v := by
  have hle := h.le
  have hlen := gr_len h hi
  induction d with
  | zero =>
    intro m hm hd
    refine Ev.succ ?_; simp only [graph_preds.l1]
    refine Ev.ifn (by omega) ?_
    rw [wrap_nat (by omega), show m = (S.getD i []).length by omega, prI_succ]
    exact H
  | succ d ih =>
    intro m hm hd
    have h1 : m < (S.getD i []).length := by omega
    refine Ev.succ ?_; simp only [graph_preds.l1]
    rw [rd_up]
    have hy := (h.row i hi).2 _ (getD_mem (d := 0) h1)
    have hyn : (S.getD i []).getD m 0 ∉ (S.getD i []).take m := by
      intro hc
      have h3 : (S.getD i []).Nodup := gr_nodup h hi
      have h2 := take_getD _ m 0 h1
      have h4 : ((S.getD i []).take (m + 1)).Nodup := h3.sublist (List.take_sublist _ _)
      rw [h2, List.nodup_append] at h4
      exact h4.2.2 _ hc _ (List.mem_singleton.mpr rfl) rfl
    generalize hyv : (S.getD i []).getD m 0 = y at hy hyn
    have hrow : rd_L1 (prI S i m) (y : Int) = up (prAt S i m y) := by
      simp only [rd_L1, Int.toNat_natCast, prI]
      exact getD_map_range _ _ _ _ hy
    have hpl : (prAt S i m y).length ≤ 65 := by
      simp only [prAt, List.length_append]
      have := List.length_filter_le (fun i => decide (y ∈ S.getD i [])) (List.range i)
      simp only [List.length_range] at this
      split
      · rw [List.length_singleton]; omega
      · rw [List.length_nil]; omega
    refine Ev.ifp (by omega) (Ev.ifp (by omega) (Ev.ifp (by rw [up_length]; omega) (Ev.ifp (by omega) (Ev.ifp (by simp [prI]; omega) ?_))))
    rw [hrow]
    refine Ev.ifp (by rw [up_length]; omega) ?_
    have hset : (prI S i m).set y (up (prAt S i m y) ++ [(i : Int)]) = prI S i (m + 1) := by
      refine set_map_range _ _ _ _ _ ?_ (fun j hj => ?_)
      · simp only [prAt]
        rw [take_getD _ m 0 h1, hyv, if_neg hyn, if_pos (by simp)]
        simp [up]
      · simp only [prAt]
        rw [take_getD _ m 0 h1, hyv]
        congr 2
        simp [hj]
    rw [Int.toNat_natCast, hset, wrap_nat (by omega)]
    exact ih (m + 1) (by omega) (by omega)
theorem preds_l0 {S : List (List Nat)} (h : Gr S) (d : Nat) : ∀ i, i ≤ S.length → S.length - i = d → Ev (fun k => graph_preds.l0 k (prI S i 0) (up2 S) (S.length : Int) (i : Int)) (up2 (pr S)) := by
  have hle := h.le
  induction d with
  | zero =>
    intro i hi hd
    refine Ev.succ ?_; simp only [graph_preds.l0]
    refine Ev.ifn (by omega) ?_
    rw [show i = S.length by omega, preds_end]
    exact Ev.pure
  | succ d ih =>
    intro i hi hd
    refine Ev.succ ?_; simp only [graph_preds.l0]
    refine Ev.ifp (by omega) (Ev.ifp (by omega) (Ev.ifp (by simp; omega) ?_))
    rw [rdL_up, up_length]
    exact preds_l1 h i (by omega) _ (ih (i + 1) (by omega) (by omega)) _ 0 (by omega) rfl
theorem preds_ok {S : List (List Nat)} (h : Gr S) : Ev (fun k => graph_preds.f k (up2 S)) (up2 (pr S)) := by
  have hle := h.le
  unfold graph_preds.f
  refine Ev.ifp (by omega) (Ev.ifp (by simp; omega) ?_)
  have h0 := preds_l0 h S.length 0 (by omega) (by omega)
  have e : List.replicate (((up2 S).length : Int)).toNat ([] : List Int) = prI S 0 0 := by
    simp only [up2_length, Int.toNat_natCast, prI]
    apply List.ext_getElem
    · simp
    · intro j h1 h2; simp [prAt]
  rw [e, up2_length]
  exact h0

/-! #### graph.Make -/
theorem clone_ok (l : List Int) (h : l.length < 17592186044416) : slices_Clone_int_int.f l = some l := by
  simp [slices_Clone_int_int.f, h]
theorem make_l0 {S : List (List Nat)} (h : Gr S) (d : Nat) : ∀ i, i ≤ S.length → S.length - i = d → Ev (fun k => graph_Make.l0 k (up2 (S.take i)) (up2 S) (S.length : Int) (i : Int)) (up2 S, up2 (pr S), 0) := by
  have hle := h.le
  induction d with
  | zero =>
    intro i hi hd
    refine Ev.succ ?_; simp only [graph_Make.l0]
    refine Ev.ifn (by omega) ?_
    rw [List.take_of_length_le (by omega)]
    exact Ev.bind (preds_ok h) Ev.pure
  | succ d ih =>
    intro i hi hd
    have h1 : i < S.length := by omega
    have hlen := gr_len h h1
    refine Ev.succ ?_; simp only [graph_Make.l0]
    refine Ev.ifp (by omega) (Ev.ifp (by omega) (Ev.ifp (by simp; omega) ?_))
    rw [rdL_up, clone_ok _ (by rw [up_length]; omega)]
    simp only [Option.bind_some]
    refine Ev.ifp (by simp; omega) ?_
    have e : up2 (S.take i) ++ [up (S.getD i [])] = up2 (S.take (i + 1)) := by rw [take_getD S i [] h1]; simp [up2]
    rw [e, wrap_nat (by omega)]
    exact ih (i + 1) (by omega) (by omega)
theorem make_ok {S : List (List Nat)} (h : Gr S) : Ev (fun k => graph_Make.f k (up2 S)) (up2 S, up2 (pr S), 0) := by
  have hle := h.le; have hpos := h.pos
  have hg := gr_good h
  simp only [goodb, Bool.and_eq_true, decide_eq_true_eq, List.all_eq_true] at hg
  unfold graph_Make.f
  refine Ev.ifn (by simp; omega) (Ev.ifn (by simp; omega) ?_)
  have hrow : ∀ l ∈ up2 S, l.length ≤ big := by
    intro l hl
    obtain ⟨r, hr, rfl⟩ := List.mem_map.mp hl
    obtain ⟨i, hi, hri⟩ := List.getElem_of_mem hr
    have hsub := gr_len h hi
    rw [List.getD_eq_getElem?_getD, List.getElem?_eq_getElem hi, hri, Option.getD_some] at hsub
    rw [up_length]; simp only [big]; omega
  refine Ev.bind (contains_ok (up2 S) _ (by simp [big]; omega) hrow) ?_
  have e : (up2 S).any (fun l => !rsg ((up2 S).length : Int) (-1) l) = false := by
    rw [List.any_eq_false]
    intro l hl; rw [hg.2.2 l hl]; decide
  rw [e]
  refine Ev.succ ?_; simp only [graph_Make.j0]
  refine Ev.ifn (by decide) (Ev.ifp (by omega) (Ev.ifp (by simp; omega) ?_))
  simpa using make_l0 h S.length 0 (by omega) (by omega)
theorem make_bad {s : List (List Int)} (hb : s.length ≤ big) (hr : ∀ l ∈ s, l.length ≤ big) (h : goodb s = false) : Ev (fun k => graph_Make.f k s) ([], [], 5) := by
  unfold graph_Make.f
  have hj : ∀ n, Ev (fun k => graph_Make.j0 k s true n) (([] : List (List Int)), ([] : List (List Int)), (5 : Int)) := by
    intro n; refine Ev.succ ?_; simp only [graph_Make.j0]; exact Ev.ifp trivial Ev.pure
  by_cases h1 : (s.length : Int) < 1
  · exact Ev.ifp h1 (hj _)
  · refine Ev.ifn h1 ?_
    by_cases h2 : (s.length : Int) > 64
    · exact Ev.ifp h2 (hj _)
    · refine Ev.ifn h2 (Ev.bind (contains_ok s _ hb hr) ?_)
      have e : s.any (fun l => !rsg (s.length : Int) (-1) l) = true := by
        simp only [goodb] at h
        rw [decide_eq_true (by omega), decide_eq_true (by omega), Bool.true_and, Bool.true_and] at h
        rw [← Bool.not_eq_false, List.any_eq_false]
        intro hc
        have : s.all (rsg (s.length : Int) (-1)) = true := List.all_eq_true.mpr (fun l hl => by have := hc l hl; simpa using this)
        rw [h] at this; cases this
      rw [e]; exact hj _
end Go.Proofs.Ytokfaaemhniodaa.GP
