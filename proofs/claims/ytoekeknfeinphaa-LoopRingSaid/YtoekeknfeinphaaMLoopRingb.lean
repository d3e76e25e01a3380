/- Texts of this session, joined by wip/tools/merge.py. Conditions: each theorem's own. -/
import Derived.Test.YtoekeknfeinphaaGx6
import Derived.Test.YtoekeknfeinphaaGx9
import Derived.Test.YtoekeknfeinphaaGx11
import Derived.Test.YtoekeknfeinphaaGx15
import Derived.Test.YtoekeknfeinphaaGx14
import Derived.Test.YtoekeknfeinphaaGx0
import Derived.Test.YtoekeknfeinphaaGx19
import Derived.Test.YtoekeknfeinphaaGx16
import Derived.Test.YtoekeknfeinphaaGx17
import Derived.Test.YtoekeknfeinphaaGx20
import Derived.Test.YtoekeknfeinphaaGx21
import Derived.Test.YtoekeknfeinphaaMLoopRingc
import Derived.Test.YtoekeknfeinphaaGx22
import Derived.Test.YtoekeknfeinphaaGx23
import Derived.Test.YtoekeknfeinphaaGx24
namespace Go.Proofs.Ytoekeknfeinphaa.GP
open Go.RowKit Go.Proofs.Ytoekeknfeinphaa.G Go.Proofs.YtoekeknfeinphaaW.PrintWords

/-- With enough rounds the answer is v. -/
def Ev {α : Type} (f : Nat → Option α) (v : α) : Prop := ∃ K, ∀ k, K ≤ k → f k = some v
theorem Ev.succ {α : Type} {f : Nat → Option α} {v : α} (h : Ev (fun k => f (k + 1)) v) : Ev f v := by
  obtain ⟨K, h⟩ := h
  refine ⟨K + 1, fun k hk => ?_⟩
  obtain ⟨m, rfl⟩ : ∃ m, k = m + 1 := ⟨k - 1, by omega⟩
  exact h m (by omega)
theorem Ev.bind {α β : Type} {g : Nat → Option α} {h : Nat → α → Option β} {a : α} {r : β} (h1 : Ev g a) (h2 : Ev (fun k => h k a) r) : Ev (fun k => (g k).bind (fun t => h k t)) r := by
  obtain ⟨K1, h1⟩ := h1
  obtain ⟨K2, h2⟩ := h2
  refine ⟨K1 + K2, fun k hk => ?_⟩
  simp only [h1 k (by omega), Option.bind_some]
  exact h2 k (by omega)
theorem Ev.pure {α : Type} {v : α} : Ev (fun _ => some v) v := ⟨0, fun _ _ => rfl⟩
theorem Ev.ifp {α : Type} {c : Prop} [Decidable c] {a b : Nat → Option α} {v : α} (h : c) (H : Ev a v) : Ev (fun k => if c then a k else b k) v := by
  simp only [if_pos h]; exact H
theorem Ev.ifn {α : Type} {c : Prop} [Decidable c] {a b : Nat → Option α} {v : α} (h : ¬ c) (H : Ev b v) : Ev (fun k => if c then a k else b k) v := by
  simp only [if_neg h]; exact H
theorem Ev.at {α : Type} {f : Nat → Option α} {v : α} (h : Ev f v) : ∃ k, f k = some v := by
  obtain ⟨K, h⟩ := h; exact ⟨K, h K (Nat.le_refl _)⟩
theorem Ev.of_eq {α : Type} {f : Nat → Option α} {v w : α} (h : Ev f v) (e : v = w) : Ev f w := e ▸ h
theorem Ev.of_at {α : Type} {f : Nat → Option α} {v : α} (m : ∀ k, LeO (f k) (f (k + 1))) {K : Nat} (h : f K = some v) : Ev f v := by
  refine ⟨K, fun k hk => ?_⟩
  obtain ⟨d, rfl⟩ : ∃ d, k = K + d := ⟨k - K, by omega⟩
  clear hk
  induction d with
  | zero => exact h
  | succ d ih => exact m _ _ ih

theorem wrap_nat {i : Nat} (h : i < 9223372036854775807) : wrap64 ((i : Int) + 1) = ((i + 1 : Nat) : Int) := by unfold wrap64; omega
theorem wrap_id {x : Int} (h : -9223372036854775808 ≤ x) (h' : x ≤ 9223372036854775807) : wrap64 x = x := by unfold wrap64; omega

/-- Numbers as blocks' numbers. -/
def up (l : List Nat) : List Int := l.map (fun n : Nat => (n : Int))
def up2 (S : List (List Nat)) : List (List Int) := S.map up
@[simp] theorem up_length (l : List Nat) : (up l).length = l.length := by simp [up]
@[simp] theorem up2_length (S : List (List Nat)) : (up2 S).length = S.length := by simp [up2]
@[simp] theorem up_nil : up [] = [] := rfl
@[simp] theorem up2_nil : up2 [] = [] := rfl
theorem up_append (a b : List Nat) : up (a ++ b) = up a ++ up b := by simp [up]
theorem up_inj {a b : List Nat} (h : up a = up b) : a = b := by
  induction a generalizing b with
  | nil => cases b with
    | nil => rfl
    | cons y b => simp [up] at h
  | cons x a ih => cases b with
    | nil => simp [up] at h
    | cons y b =>
      simp only [up, List.map_cons, List.cons.injEq] at h
      rw [show x = y by omega, ih h.2]
theorem up2_inj {a b : List (List Nat)} (h : up2 a = up2 b) : a = b := by
  induction a generalizing b with
  | nil => cases b with
    | nil => rfl
    | cons y b => simp [up2] at h
  | cons x a ih => cases b with
    | nil => simp [up2] at h
    | cons y b =>
      simp only [up2, List.map_cons, List.cons.injEq] at h
      rw [up_inj h.1, ih h.2]
theorem rd_up (l : List Nat) (i : Nat) : rd (up l) (i : Int) = ((l.getD i 0 : Nat) : Int) := by
  simp only [rd, up, Int.toNat_natCast, List.getD_eq_getElem?_getD, List.getElem?_map]
  cases l[i]? <;> rfl
theorem rdL_up (S : List (List Nat)) (i : Nat) : rd_L1 (up2 S) (i : Int) = up (S.getD i []) := by
  simp only [rd_L1, up2, Int.toNat_natCast, List.getD_eq_getElem?_getD, List.getElem?_map]
  cases S[i]? <;> rfl
theorem getD_mem {α : Type} {l : List α} {i : Nat} {d : α} (h : i < l.length) : l.getD i d ∈ l := by
  rw [List.getD_eq_getElem?_getD, List.getElem?_eq_getElem h]; exact List.getElem_mem h
theorem drop_getD {α : Type} (l : List α) (i : Nat) (d : α) (h : i < l.length) : l.drop i = l.getD i d :: l.drop (i + 1) := by
  rw [List.drop_eq_getElem_cons h, List.getD_eq_getElem?_getD, List.getElem?_eq_getElem h]; rfl
theorem take_getD {α : Type} (l : List α) (i : Nat) (d : α) (h : i < l.length) : l.take (i + 1) = l.take i ++ [l.getD i d] := by
  rw [List.take_succ_eq_append_getElem h, List.getD_eq_getElem?_getD, List.getElem?_eq_getElem h]; rfl
theorem getD_map_range {α : Type} (n : Nat) (f : Nat → α) (i : Nat) (d : α) (h : i < n) : ((List.range n).map f).getD i d = f i := by
  rw [List.getD_eq_getElem?_getD, List.getElem?_map, List.getElem?_range h]; rfl
theorem set_map_range {α : Type} (n : Nat) (f g : Nat → α) (i : Nat) (v : α) (hv : g i = v) (he : ∀ j, j ≠ i → g j = f j) : ((List.range n).map f).set i v = (List.range n).map g := by
  apply List.ext_getElem
  · simp
  · intro j h1 h2
    simp only [List.getElem_set, List.getElem_map, List.getElem_range]
    split
    · next e => rw [← e, hv]
    · next e => rw [he j (fun h => e h.symm)]
theorem self_map_range {α : Type} (l : List α) (d : α) : l = (List.range l.length).map (fun i => l.getD i d) := by
  apply List.ext_getElem
  · simp
  · intro j h1 h2
    simp only [List.getElem_map, List.getElem_range, List.getD_eq_getElem?_getD, List.getElem?_eq_getElem h1]; rfl
theorem ext_getD {α : Type} {a b : List α} (d : α) (hl : a.length = b.length) (h : ∀ i, i < a.length → a.getD i d = b.getD i d) : a = b := by
  rw [self_map_range a d, self_map_range b d, hl]
  exact List.map_congr_left (fun i hi => h i (by have := List.mem_range.mp hi; omega))

/-- Each number greater than the one ahead, and below n. -/
def rsg (n : Int) : Int → List Int → Bool
  | _, [] => true
  | last, x :: xs => if x ≤ last then false else if x ≥ n then false else rsg n x xs

def big : Nat := 9223372036854775807

theorem rising_l0 (d : Nat) : ∀ (i : Nat) (n last : Int) (l : List Int), l.length ≤ big → i ≤ l.length → l.length - i = d → Ev (fun k => graph_rising.l0 k n last l (l.length : Int) (i : Int)) (rsg n last (l.drop i)) := by
  induction d with
  | zero =>
    intro i n last l hb hi hd
    refine Ev.succ ?_; simp only [graph_rising.l0]
    rw [List.drop_of_length_le (by omega)]
    exact Ev.ifn (by omega) Ev.pure
  | succ d ih =>
    intro i n last l hb hi hd
    have h1 : i < l.length := by omega
    have hbb : big = 9223372036854775807 := rfl
    refine Ev.succ ?_; simp only [graph_rising.l0]
    refine Ev.ifp (by omega) (Ev.ifp (by omega) (Ev.ifp (by omega) ?_))
    rw [drop_getD l i 0 h1, show rd l (i : Int) = l.getD i 0 by simp [rd]]
    simp only [rsg]
    split
    · exact Ev.pure
    · split
      · exact Ev.pure
      · rw [wrap_nat (by omega)]
        exact ih (i + 1) _ _ l hb (by omega) (by omega)
theorem make1_ok (l : List Int) (n : Int) (h : l.length ≤ big) : Ev (fun k => graph_Make_1.f k l n) (!rsg n (-1) l) := by
  unfold graph_Make_1.f graph_rising.f
  exact Ev.bind (a := rsg n (-1) l) (by simpa using rising_l0 l.length 0 n (-1) l h (by omega) (by omega)) Ev.pure
theorem index_l0 (d : Nat) : ∀ (i : Nat) (n : Int) (s : List (List Int)), s.length ≤ big → (∀ l ∈ s, l.length ≤ big) → i ≤ s.length → s.length - i = d →
    ∃ v, Ev (fun k => slices_IndexFunc_int_int_graph_Make_1.l0 k s (s.length : Int) (i : Int) n) v ∧ decide (v ≥ 0) = (s.drop i).any (fun l => !rsg n (-1) l) := by
  induction d with
  | zero =>
    intro i n s hb hr hi hd
    refine ⟨-1, Ev.succ ?_, by rw [List.drop_of_length_le (by omega)]; rfl⟩
    simp only [slices_IndexFunc_int_int_graph_Make_1.l0]
    exact Ev.ifn (by omega) Ev.pure
  | succ d ih =>
    intro i n s hb hr hi hd
    have h1 : i < s.length := by omega
    have hbb : big = 9223372036854775807 := rfl
    have hrd : rd_L1 s (i : Int) = s.getD i [] := by simp [rd_L1]
    rw [drop_getD s i [] h1, List.any_cons]
    cases hv : rsg n (-1) (s.getD i []) with
    | false =>
      refine ⟨(i : Int), Ev.succ ?_, by simp⟩
      simp only [slices_IndexFunc_int_int_graph_Make_1.l0]
      refine Ev.ifp (by omega) (Ev.ifp (by omega) (Ev.ifp (by omega) ?_))
      refine Ev.bind (make1_ok _ n (by rw [hrd]; exact hr _ (getD_mem h1))) ?_
      rw [hrd, hv]
      exact Ev.ifp rfl Ev.pure
    | true =>
      obtain ⟨v, he, hd'⟩ := ih (i + 1) n s hb hr (by omega) (by omega)
      refine ⟨v, Ev.succ ?_, by simpa using hd'⟩
      simp only [slices_IndexFunc_int_int_graph_Make_1.l0]
      refine Ev.ifp (by omega) (Ev.ifp (by omega) (Ev.ifp (by omega) ?_))
      refine Ev.bind (make1_ok _ n (by rw [hrd]; exact hr _ (getD_mem h1))) ?_
      rw [hrd, hv]
      refine Ev.ifn (by decide) ?_
      rw [wrap_nat (by omega)]; exact he
theorem contains_ok (s : List (List Int)) (n : Int) (hb : s.length ≤ big) (hr : ∀ l ∈ s, l.length ≤ big) : Ev (fun k => slices_ContainsFunc_int_int_graph_Make_1.f k s n) (s.any (fun l => !rsg n (-1) l)) := by
  obtain ⟨v, he, hd⟩ := index_l0 s.length 0 n s hb hr (by omega) (by omega)
  unfold slices_ContainsFunc_int_int_graph_Make_1.f slices_IndexFunc_int_int_graph_Make_1.f
  have hd' : decide (v ≥ 0) = s.any (fun l => !rsg n (-1) l) := by simpa using hd
  exact (Ev.bind (h := fun _ t => some (decide (t ≥ 0))) (by simpa using he) Ev.pure).of_eq hd'

/-- May these lists be a graph's ways on? -/
def goodb (s : List (List Int)) : Bool := decide (1 ≤ s.length) && (decide (s.length ≤ 64) && s.all (rsg (s.length : Int) (-1)))
/-- A graph's ways on. -/
structure Gr (S : List (List Nat)) : Prop where
  pos : 0 < S.length
  le : S.length ≤ 64
  row : ∀ i, i < S.length → (S.getD i []).Pairwise (· < ·) ∧ ∀ y ∈ S.getD i [], y < S.length
/-- Where blocks come from. -/
def pr (S : List (List Nat)) : List (List Nat) := (List.range S.length).map fun j => (List.range S.length).filter fun i => decide (j ∈ S.getD i [])

theorem rsg_spec : ∀ (l : List Int) (n last : Int), rsg n last l = true → l.Pairwise (· < ·) ∧ (∀ x ∈ l, last < x ∧ x < n) := by
  intro l
  induction l with
  | nil => intro n last _; simp
  | cons x l ih =>
    intro n last h
    simp only [rsg] at h
    split at h
    · cases h
    · split at h
      · cases h
      · obtain ⟨h1, h2⟩ := ih n x h
        refine ⟨List.pairwise_cons.mpr ⟨fun y hy => (h2 y hy).1, h1⟩, fun y hy => ?_⟩
        rcases List.mem_cons.mp hy with rfl | hy
        · omega
        · have := h2 y hy; omega
theorem rsg_of : ∀ (l : List Int) (n last : Int), l.Pairwise (· < ·) → (∀ x ∈ l, last < x ∧ x < n) → rsg n last l = true := by
  intro l
  induction l with
  | nil => intro n last _ _; rfl
  | cons x l ih =>
    intro n last h h2
    have h3 := h2 x (List.mem_cons_self ..)
    simp only [rsg]
    rw [if_neg (by omega), if_neg (by omega)]
    obtain ⟨h4, h5⟩ := List.pairwise_cons.mp h
    exact ih n x h5 (fun y hy => ⟨h4 y hy, (h2 y (List.mem_cons_of_mem _ hy)).2⟩)
theorem good_gr {s : List (List Int)} (h : goodb s = true) : ∃ S, Gr S ∧ s = up2 S := by
  simp only [goodb, Bool.and_eq_true, decide_eq_true_eq, List.all_eq_true] at h
  obtain ⟨h1, h2, h3⟩ := h
  have hr : ∀ l ∈ s, up (l.map Int.toNat) = l := by
    intro l hl
    have := rsg_spec l _ _ (h3 l hl)
    simp only [up, List.map_map]
    conv => rhs; rw [← List.map_id l]
    exact List.map_congr_left (fun x hx => by have := (this.2 x hx).1; simp; omega)
  have hs : up2 (s.map (fun l => l.map Int.toNat)) = s := by
    simp only [up2, List.map_map]
    conv => rhs; rw [← List.map_id s]
    exact List.map_congr_left (fun l hl => hr l hl)
  refine ⟨s.map (fun l => l.map Int.toNat), ⟨by simp; omega, by simpa using h2, fun i hi => ?_⟩, hs.symm⟩
  have hi' : i < s.length := by simpa using hi
  have hl := getD_mem (d := []) hi'
  have hq : (s.map (fun l => l.map Int.toNat)).getD i [] = (s.getD i []).map Int.toNat := by
    simp only [List.getD_eq_getElem?_getD, List.getElem?_map, List.getElem?_eq_getElem hi']; rfl
  have h4 := rsg_spec _ _ _ (h3 _ hl)
  rw [hq]
  refine ⟨List.pairwise_map.mpr (h4.1.imp_of_mem (fun ha hb hab => by have := h4.2 _ ha; have := h4.2 _ hb; omega)), fun y hy => ?_⟩
  obtain ⟨x, hx, rfl⟩ := List.mem_map.mp hy
  have := h4.2 x hx
  simp; omega
theorem gr_good {S : List (List Nat)} (h : Gr S) : goodb (up2 S) = true := by
  simp only [goodb, Bool.and_eq_true, decide_eq_true_eq, List.all_eq_true, up2_length]
  refine ⟨h.pos, h.le, fun l hl => ?_⟩
  obtain ⟨r, hr, rfl⟩ := List.mem_map.mp hl
  obtain ⟨i, hi, hri⟩ := List.getElem_of_mem hr
  have h2 := h.row i hi
  rw [List.getD_eq_getElem?_getD, List.getElem?_eq_getElem hi, hri] at h2
  simp only [Option.getD_some] at h2
  refine rsg_of _ _ _ (List.pairwise_map.mpr (h2.1.imp (fun h => by omega))) (fun x hx => ?_)
  obtain ⟨y, hy, rfl⟩ := List.mem_map.mp hx
  have := h2.2 y hy; omega

theorem pw_len (n : Nat) : ∀ (l : List Nat) (lo : Nat), l.Pairwise (· < ·) → (∀ x ∈ l, lo ≤ x ∧ x < n) → lo ≤ n → l.length + lo ≤ n := by
  intro l
  induction l with
  | nil => intro lo _ _ h; simpa using h
  | cons x l ih =>
    intro lo h h2 hlo
    obtain ⟨h4, h5⟩ := List.pairwise_cons.mp h
    have h3 := h2 x (List.mem_cons_self ..)
    have := ih (x + 1) h5 (fun y hy => ⟨h4 y hy, (h2 y (List.mem_cons_of_mem _ hy)).2⟩) (by omega)
    simp only [List.length_cons]; omega
theorem gr_len {S : List (List Nat)} (h : Gr S) {i : Nat} (hi : i < S.length) : (S.getD i []).length ≤ 64 := by
  have := pw_len S.length _ 0 (h.row i hi).1 (fun x hx => ⟨Nat.zero_le _, (h.row i hi).2 x hx⟩) (Nat.zero_le _)
  have := h.le; omega
/-! #### the ways back -/
theorem gr_nodup {S : List (List Nat)} (h : Gr S) {i : Nat} (hi : i < S.length) : (S.getD i []).Nodup := (h.row i hi).1.imp (fun h => Nat.ne_of_lt h)
/-- The ways back when i rows are gone through, and m of row i. -/
def prAt (S : List (List Nat)) (i m j : Nat) : List Nat := (List.range i).filter (fun i => decide (j ∈ S.getD i [])) ++ if j ∈ (S.getD i []).take m then [i] else []
def prI (S : List (List Nat)) (i m : Nat) : List (List Int) := (List.range S.length).map fun j => up (prAt S i m j)
theorem prI_succ (S : List (List Nat)) (i : Nat) : prI S i (S.getD i []).length = prI S (i + 1) 0 := by
  unfold prI
  refine List.map_congr_left (fun j _ => ?_)
  simp only [prAt, List.take_length, List.take_zero, List.range_succ, List.filter_append, List.not_mem_nil, if_false, List.append_nil]
  congr 2
  by_cases hj : j ∈ S.getD i []
  · rw [if_pos hj, List.filter_cons_of_pos (by simpa using hj)]; rfl
  · rw [if_neg hj, List.filter_cons_of_neg (by simpa using hj)]; rfl
theorem preds_end {S : List (List Nat)} : prI S S.length 0 = up2 (pr S) := by
  simp only [prI, pr, up2, List.map_map]
  refine List.map_congr_left (fun j _ => ?_)
  simp [prAt]
theorem preds_l1 {S : List (List Nat)} (h : Gr S) (i : Nat) (hi : i < S.length) (v : List (List Int)) (H : Ev (fun k => graph_preds.l0 k (prI S (i + 1) 0) (up2 S) (S.length : Int) ((i + 1 : Nat) : Int)) v) (d : Nat) :
    ∀ m, m ≤ (S.getD i []).length → (S.getD i []).length - m = d → Ev (fun k => graph_preds.l1 k (prI S i m) (i : Int) (up2 S) (S.length : Int) (i : Int) (up (S.getD i [])) ((S.getD i []).length : Int) (m : Int)) v := by
  have hle := h.le
  have hlen := gr_len h hi
  induction d with
  | zero =>
    intro m hm hd
    refine Ev.succ ?_; simp only [graph_preds.l1]
    refine Ev.ifn (by omega) ?_
    rw [wrap_nat (by omega), show m = (S.getD i []).length by omega, prI_succ]
    exact H
  | succ d ih =>
    intro m hm hd
    have h1 : m < (S.getD i []).length := by omega
    refine Ev.succ ?_; simp only [graph_preds.l1]
    rw [rd_up]
    have hy := (h.row i hi).2 _ (getD_mem (d := 0) h1)
    have hyn : (S.getD i []).getD m 0 ∉ (S.getD i []).take m := by
      intro hc
      have h3 : (S.getD i []).Nodup := gr_nodup h hi
      have h2 := take_getD _ m 0 h1
      have h4 : ((S.getD i []).take (m + 1)).Nodup := h3.sublist (List.take_sublist _ _)
      rw [h2, List.nodup_append] at h4
      exact h4.2.2 _ hc _ (List.mem_singleton.mpr rfl) rfl
    generalize hyv : (S.getD i []).getD m 0 = y at hy hyn
    have hrow : rd_L1 (prI S i m) (y : Int) = up (prAt S i m y) := by
      simp only [rd_L1, Int.toNat_natCast, prI]
      exact getD_map_range _ _ _ _ hy
    have hpl : (prAt S i m y).length ≤ 65 := by
      simp only [prAt, List.length_append]
      have := List.length_filter_le (fun i => decide (y ∈ S.getD i [])) (List.range i)
      simp only [List.length_range] at this
      split
      · rw [List.length_singleton]; omega
      · rw [List.length_nil]; omega
    refine Ev.ifp (by omega) (Ev.ifp (by omega) (Ev.ifp (by rw [up_length]; omega) (Ev.ifp (by omega) (Ev.ifp (by simp [prI]; omega) ?_))))
    rw [hrow]
    refine Ev.ifp (by rw [up_length]; omega) ?_
    have hset : (prI S i m).set y (up (prAt S i m y) ++ [(i : Int)]) = prI S i (m + 1) := by
      refine set_map_range _ _ _ _ _ ?_ (fun j hj => ?_)
      · simp only [prAt]
        rw [take_getD _ m 0 h1, hyv, if_neg hyn, if_pos (by simp)]
        simp [up]
      · simp only [prAt]
        rw [take_getD _ m 0 h1, hyv]
        congr 2
        simp [hj]
    rw [Int.toNat_natCast, hset, wrap_nat (by omega)]
    exact ih (m + 1) (by omega) (by omega)
theorem preds_l0 {S : List (List Nat)} (h : Gr S) (d : Nat) : ∀ i, i ≤ S.length → S.length - i = d → Ev (fun k => graph_preds.l0 k (prI S i 0) (up2 S) (S.length : Int) (i : Int)) (up2 (pr S)) := by
  have hle := h.le
  induction d with
  | zero =>
    intro i hi hd
    refine Ev.succ ?_; simp only [graph_preds.l0]
    refine Ev.ifn (by omega) ?_
    rw [show i = S.length by omega, preds_end]
    exact Ev.pure
  | succ d ih =>
    intro i hi hd
    refine Ev.succ ?_; simp only [graph_preds.l0]
    refine Ev.ifp (by omega) (Ev.ifp (by omega) (Ev.ifp (by simp; omega) ?_))
    rw [rdL_up, up_length]
    exact preds_l1 h i (by omega) _ (ih (i + 1) (by omega) (by omega)) _ 0 (by omega) rfl
theorem preds_ok {S : List (List Nat)} (h : Gr S) : Ev (fun k => graph_preds.f k (up2 S)) (up2 (pr S)) := by
  have hle := h.le
  unfold graph_preds.f
  refine Ev.ifp (by omega) (Ev.ifp (by simp; omega) ?_)
  have h0 := preds_l0 h S.length 0 (by omega) (by omega)
  have e : List.replicate (((up2 S).length : Int)).toNat ([] : List Int) = prI S 0 0 := by
    simp only [up2_length, Int.toNat_natCast, prI]
    apply List.ext_getElem
    · simp
    · intro j h1 h2; simp [prAt]
  rw [e, up2_length]
  exact h0

/-! #### graph.Make -/
theorem clone_ok (l : List Int) (h : l.length < 17592186044416) : slices_Clone_int_int.f l = some l := by
  simp [slices_Clone_int_int.f, h]
theorem make_l0 {S : List (List Nat)} (h : Gr S) (d : Nat) : ∀ i, i ≤ S.length → S.length - i = d → Ev (fun k => graph_Make.l0 k (up2 (S.take i)) (up2 S) (S.length : Int) (i : Int)) (up2 S, up2 (pr S), 0) := by
  have hle := h.le
  induction d with
  | zero =>
    intro i hi hd
    refine Ev.succ ?_; simp only [graph_Make.l0]
    refine Ev.ifn (by omega) ?_
    rw [List.take_of_length_le (by omega)]
    exact Ev.bind (preds_ok h) Ev.pure
  | succ d ih =>
    intro i hi hd
    have h1 : i < S.length := by omega
    have hlen := gr_len h h1
    refine Ev.succ ?_; simp only [graph_Make.l0]
    refine Ev.ifp (by omega) (Ev.ifp (by omega) (Ev.ifp (by simp; omega) ?_))
    rw [rdL_up, clone_ok _ (by rw [up_length]; omega)]
    simp only [Option.bind_some]
    refine Ev.ifp (by simp; omega) ?_
    have e : up2 (S.take i) ++ [up (S.getD i [])] = up2 (S.take (i + 1)) := by rw [take_getD S i [] h1]; simp [up2]
    rw [e, wrap_nat (by omega)]
    exact ih (i + 1) (by omega) (by omega)
theorem make_ok {S : List (List Nat)} (h : Gr S) : Ev (fun k => graph_Make.f k (up2 S)) (up2 S, up2 (pr S), 0) := by
  have hle := h.le; have hpos := h.pos
  have hg := gr_good h
  simp only [goodb, Bool.and_eq_true, decide_eq_true_eq, List.all_eq_true] at hg
  unfold graph_Make.f
  refine Ev.ifn (by simp; omega) (Ev.ifn (by simp; omega) ?_)
  have hrow : ∀ l ∈ up2 S, l.length ≤ big := by
    intro l hl
    obtain ⟨r, hr, rfl⟩ := List.mem_map.mp hl
    obtain ⟨i, hi, hri⟩ := List.getElem_of_mem hr
    have hsub := gr_len h hi
    rw [List.getD_eq_getElem?_getD, List.getElem?_eq_getElem hi, hri, Option.getD_some] at hsub
    rw [up_length]; simp only [big]; omega
  refine Ev.bind (contains_ok (up2 S) _ (by simp [big]; omega) hrow) ?_
  have e : (up2 S).any (fun l => !rsg ((up2 S).length : Int) (-1) l) = false := by
    rw [List.any_eq_false]
    intro l hl; rw [hg.2.2 l hl]; decide
  rw [e]
  refine Ev.succ ?_; simp only [graph_Make.j0]
  refine Ev.ifn (by decide) (Ev.ifp (by omega) (Ev.ifp (by simp; omega) ?_))
  simpa using make_l0 h S.length 0 (by omega) (by omega)
theorem make_bad {s : List (List Int)} (hb : s.length ≤ big) (hr : ∀ l ∈ s, l.length ≤ big) (h : goodb s = false) : Ev (fun k => graph_Make.f k s) ([], [], 5) := by
  unfold graph_Make.f
  have hj : ∀ n, Ev (fun k => graph_Make.j0 k s true n) (([] : List (List Int)), ([] : List (List Int)), (5 : Int)) := by
    intro n; refine Ev.succ ?_; simp only [graph_Make.j0]; exact Ev.ifp trivial Ev.pure
  by_cases h1 : (s.length : Int) < 1
  · exact Ev.ifp h1 (hj _)
  · refine Ev.ifn h1 ?_
    by_cases h2 : (s.length : Int) > 64
    · exact Ev.ifp h2 (hj _)
    · refine Ev.ifn h2 (Ev.bind (contains_ok s _ hb hr) ?_)
      have e : s.any (fun l => !rsg (s.length : Int) (-1) l) = true := by
        simp only [goodb] at h
        rw [decide_eq_true (by omega), decide_eq_true (by omega), Bool.true_and, Bool.true_and] at h
        rw [← Bool.not_eq_false, List.any_eq_false]
        intro hc
        have : s.all (rsg (s.length : Int) (-1)) = true := List.all_eq_true.mpr (fun l hl => by have := hc l hl; simpa using this)
        rw [h] at this; cases this
      rw [e]; exact hj _

theorem equal_l0 (d : Nat) : ∀ (i : Nat) (a b : List Int), a.length = b.length → a.length ≤ big → i ≤ a.length → a.length - i = d → Ev (fun k => slices_Equal_int_int.l0 k a b (a.length : Int) (i : Int)) (decide (a.drop i = b.drop i)) := by
  induction d with
  | zero =>
    intro i a b hl hb hi hd
    refine Ev.succ ?_; simp only [slices_Equal_int_int.l0]
    refine Ev.ifn (by omega) ?_
    rw [List.drop_of_length_le (by omega), List.drop_of_length_le (by omega)]
    exact Ev.pure.of_eq (by simp)
  | succ d ih =>
    intro i a b hl hb hi hd
    have hbb : big = 9223372036854775807 := rfl
    refine Ev.succ ?_; simp only [slices_Equal_int_int.l0]
    refine Ev.ifp (by omega) (Ev.ifp (by omega) (Ev.ifp (by omega) (Ev.ifp (by omega) ?_)))
    rw [show rd a (i : Int) = a.getD i 0 by simp [rd], show rd b (i : Int) = b.getD i 0 by simp [rd]]
    rw [drop_getD a i 0 (by omega), drop_getD b i 0 (by omega)]
    by_cases h : a.getD i 0 = b.getD i 0
    · refine Ev.ifp h ?_
      rw [wrap_nat (by omega)]
      exact (ih (i + 1) a b hl hb (by omega) (by omega)).of_eq (by rw [h]; simp)
    · refine Ev.ifn h (Ev.pure.of_eq ?_)
      rw [decide_eq_false]
      intro he; injection he with h1 _; exact h h1
theorem equal_ok (a b : List Int) (hb : a.length ≤ big) : Ev (fun k => slices_Equal_int_int.f k a b) (decide (a = b)) := by
  unfold slices_Equal_int_int.f
  by_cases h : a.length = b.length
  · refine Ev.ifp (by omega) ?_
    simpa using equal_l0 a.length 0 a b h hb (by omega) (by omega)
  · refine Ev.ifn (by omega) (Ev.pure.of_eq ?_)
    rw [decide_eq_false]
    intro he; exact h (by rw [he])
theorem eqf_l0 (d : Nat) : ∀ (i : Nat) (a b : List (List Int)), a.length = b.length → a.length ≤ big → (∀ l ∈ a, l.length ≤ big) → i ≤ a.length → a.length - i = d → Ev (fun k => slices_EqualFunc_int_int_int_int_slices_Equal_int_int.l0 k b a (a.length : Int) (i : Int)) (decide (a.drop i = b.drop i)) := by
  induction d with
  | zero =>
    intro i a b hl hb hr hi hd
    refine Ev.succ ?_; simp only [slices_EqualFunc_int_int_int_int_slices_Equal_int_int.l0]
    refine Ev.ifn (by omega) ?_
    rw [List.drop_of_length_le (by omega), List.drop_of_length_le (by omega)]
    exact Ev.pure.of_eq (by simp)
  | succ d ih =>
    intro i a b hl hb hr hi hd
    have hbb : big = 9223372036854775807 := rfl
    refine Ev.succ ?_; simp only [slices_EqualFunc_int_int_int_int_slices_Equal_int_int.l0]
    refine Ev.ifp (by omega) (Ev.ifp (by omega) (Ev.ifp (by omega) (Ev.ifp (by omega) ?_)))
    rw [show rd_L1 a (i : Int) = a.getD i [] by simp [rd_L1], show rd_L1 b (i : Int) = b.getD i [] by simp [rd_L1]]
    refine Ev.bind (equal_ok _ _ (hr _ (getD_mem (by omega)))) ?_
    rw [drop_getD a i [] (by omega), drop_getD b i [] (by omega)]
    by_cases h : a.getD i [] = b.getD i []
    · refine Ev.ifp (by rw [decide_eq_true h]) ?_
      rw [wrap_nat (by omega)]
      exact (ih (i + 1) a b hl hb hr (by omega) (by omega)).of_eq (by rw [h]; simp)
    · refine Ev.ifn (by rw [decide_eq_false h]; decide) (Ev.pure.of_eq ?_)
      rw [decide_eq_false]
      intro he; injection he with h1 _; exact h h1
theorem eqf_ok (a b : List (List Int)) (hb : a.length ≤ big) (hr : ∀ l ∈ a, l.length ≤ big) : Ev (fun k => slices_EqualFunc_int_int_int_int_slices_Equal_int_int.f k a b) (decide (a = b)) := by
  unfold slices_EqualFunc_int_int_int_int_slices_Equal_int_int.f
  by_cases h : a.length = b.length
  · refine Ev.ifp (by omega) ?_
    simpa using eqf_l0 a.length 0 a b h hb hr (by omega) (by omega)
  · refine Ev.ifn (by omega) (Ev.pure.of_eq ?_)
    rw [decide_eq_false]
    intro he; exact h (by rw [he])

theorem pr_length (S : List (List Nat)) : (pr S).length = S.length := by simp [pr]
theorem pr_getD {S : List (List Nat)} {j : Nat} (hj : j < S.length) : (pr S).getD j [] = (List.range S.length).filter fun i => decide (j ∈ S.getD i []) := getD_map_range _ _ _ _ hj
theorem mem_pr {S : List (List Nat)} {i j : Nat} (hj : j < S.length) : i ∈ (pr S).getD j [] ↔ i < S.length ∧ j ∈ S.getD i [] := by
  rw [pr_getD hj]; simp
theorem gr_pr {S : List (List Nat)} (h : Gr S) : Gr (pr S) := by
  refine ⟨by rw [pr_length]; exact h.pos, by rw [pr_length]; exact h.le, fun i hi => ?_⟩
  rw [pr_length] at hi ⊢
  refine ⟨?_, fun y hy => ((mem_pr hi).mp hy).1⟩
  rw [pr_getD hi]
  exact List.pairwise_lt_range.filter _
theorem sorted_ext : ∀ (a b : List Nat), a.Pairwise (· < ·) → b.Pairwise (· < ·) → (∀ x, x ∈ a ↔ x ∈ b) → a = b := by
  intro a
  induction a with
  | nil =>
    intro b _ _ h
    cases b with
    | nil => rfl
    | cons y b => exact absurd ((h y).mpr (List.mem_cons_self ..)) (by simp)
  | cons x a ih =>
    intro b ha hb h
    cases b with
    | nil => exact absurd ((h x).mp (List.mem_cons_self ..)) (by simp)
    | cons y b =>
      obtain ⟨ha1, ha2⟩ := List.pairwise_cons.mp ha
      obtain ⟨hb1, hb2⟩ := List.pairwise_cons.mp hb
      have e : x = y := by
        rcases List.mem_cons.mp ((h x).mp (List.mem_cons_self ..)) with e | e
        · exact e
        · rcases List.mem_cons.mp ((h y).mpr (List.mem_cons_self ..)) with e' | e'
          · exact e'.symm
          · have := hb1 x e; have := ha1 y e'; omega
      subst e
      rw [ih b ha2 hb2 (fun z => ⟨fun hz => ?_, fun hz => ?_⟩)]
      · rcases List.mem_cons.mp ((h z).mp (List.mem_cons_of_mem _ hz)) with e | e
        · have := ha1 z hz; omega
        · exact e
      · rcases List.mem_cons.mp ((h z).mpr (List.mem_cons_of_mem _ hz)) with e | e
        · have := hb1 z hz; omega
        · exact e
theorem pr_pr {S : List (List Nat)} (h : Gr S) : pr (pr S) = S := by
  have h1 := gr_pr h; have h2 := gr_pr h1
  refine ext_getD [] (by rw [pr_length, pr_length]) (fun i hi => ?_)
  rw [pr_length, pr_length] at hi
  refine sorted_ext _ _ (h2.row i (by rw [pr_length, pr_length]; exact hi)).1 (h.row i hi).1 (fun x => ?_)
  rw [mem_pr (by rw [pr_length]; exact hi), pr_length]
  constructor
  · rintro ⟨hx, hm⟩; exact ((mem_pr hx).mp hm).2
  · intro hm
    have hx := (h.row i hi).2 x hm
    exact ⟨hx, (mem_pr hx).mpr ⟨hi, hm⟩⟩
theorem gr_rows {S : List (List Nat)} (h : Gr S) : ∀ l ∈ up2 S, l.length ≤ 64 := by
  intro l hl
  obtain ⟨r, hr, rfl⟩ := List.mem_map.mp hl
  obtain ⟨i, hi, hri⟩ := List.getElem_of_mem hr
  have hsub := gr_len h hi
  rw [List.getD_eq_getElem?_getD, List.getElem?_eq_getElem hi, hri, Option.getD_some] at hsub
  rw [up_length]; exact hsub

theorem may_ok {S : List (List Nat)} (h : Gr S) (p : List (List Int)) : Ev (fun k => graph_May.f k (up2 S) p) (decide (up2 (pr S) = p)) := by
  unfold graph_May.f
  refine Ev.bind (make_ok h) ?_
  refine Ev.ifp rfl ?_
  have hle := (gr_pr h).le
  exact Ev.bind (eqf_ok _ _ (by rw [up2_length]; simp only [big]; omega) (fun l hl => by have := gr_rows (gr_pr h) l hl; simp only [big]; omega)) Ev.pure
theorem may_bad {s : List (List Int)} (hb : s.length ≤ big) (hr : ∀ l ∈ s, l.length ≤ big) (h : goodb s = false) (p : List (List Int)) : Ev (fun k => graph_May.f k s p) false := by
  unfold graph_May.f
  refine Ev.bind (make_bad hb hr h) ?_
  exact Ev.ifn (by decide) Ev.pure
end Go.Proofs.Ytoekeknfeinphaa.GP
namespace Go.Proofs.Ytoekeknfeinphaa.GP

abbrev Sn := Nat → Bool
def upd (s : Sn) (x : Nat) : Sn := fun z => if z = x then true else s z
theorem upd_self (s : Sn) (x : Nat) : upd s x x = true := by simp [upd]
theorem upd_true {s : Sn} {x z : Nat} : upd s x z = true ↔ z = x ∨ s z = true := by unfold upd; split <;> simp_all
/-- How many of the first n are not seen. -/
def cnt (n : Nat) (s : Sn) : Nat := ((List.range n).filter (fun z => !s z)).length
theorem filter_le {α : Type} (l : List α) (p q : α → Bool) (h : ∀ x ∈ l, p x = true → q x = true) : (l.filter p).length ≤ (l.filter q).length := by
  induction l with
  | nil => simp
  | cons x l ih =>
    have h1 := ih (fun y hy => h y (List.mem_cons_of_mem _ hy))
    have h2 := h x (List.mem_cons_self ..)
    cases hp : p x with
    | false => rw [List.filter_cons_of_neg (by simp [hp])]; by_cases hq : q x = true
               · rw [List.filter_cons_of_pos hq, List.length_cons]; omega
               · rw [List.filter_cons_of_neg hq]; exact h1
    | true => rw [List.filter_cons_of_pos hp, List.filter_cons_of_pos (h2 hp), List.length_cons, List.length_cons]; omega
theorem filter_lt {α : Type} (l : List α) (p q : α → Bool) (h : ∀ x ∈ l, p x = true → q x = true) (y : α) (hy : y ∈ l) (h1 : p y = false) (h2 : q y = true) : (l.filter p).length < (l.filter q).length := by
  induction l with
  | nil => simp at hy
  | cons x l ih =>
    have hl := filter_le l p q (fun y hy => h y (List.mem_cons_of_mem _ hy))
    by_cases hx : p x = true
    · have hne : y ≠ x := by rintro rfl; rw [hx] at h1; cases h1
      have hyl : y ∈ l := by rcases List.mem_cons.mp hy with e | e; exact absurd e hne; exact e
      have := ih (fun y hy => h y (List.mem_cons_of_mem _ hy)) hyl
      rw [List.filter_cons_of_pos hx, List.filter_cons_of_pos (h x (List.mem_cons_self ..) hx), List.length_cons, List.length_cons]; omega
    · rw [List.filter_cons_of_neg hx]
      rcases List.mem_cons.mp hy with e | e
      · subst e; rw [List.filter_cons_of_pos h2, List.length_cons]; omega
      · have := ih (fun y hy => h y (List.mem_cons_of_mem _ hy)) e
        by_cases hq : q x = true
        · rw [List.filter_cons_of_pos hq, List.length_cons]; omega
        · rw [List.filter_cons_of_neg hq]; exact this
theorem cnt_le {n : Nat} {s t : Sn} (h : ∀ z, s z = true → t z = true) : cnt n t ≤ cnt n s :=
  filter_le _ _ _ (fun x _ hx => by cases hs : s x; rfl; rw [h x hs] at hx; cases hx)
theorem cnt_lt {n : Nat} {s t : Sn} (h : ∀ z, s z = true → t z = true) {y : Nat} (hy : y < n) (h1 : s y = false) (h2 : t y = true) : cnt n t < cnt n s :=
  filter_lt _ _ _ (fun x _ hx => by cases hs : s x; rfl; rw [h x hs] at hx; cases hx) y (List.mem_range.mpr hy) (by rw [h2]; rfl) (by rw [h1]; rfl)
theorem filter_upd (l : List Nat) (hn : l.Nodup) (s : Sn) (x : Nat) (hx : x ∈ l) (hs : s x = false) : (l.filter (fun z => !upd s x z)).length + 1 = (l.filter (fun z => !s z)).length := by
  induction l with
  | nil => simp at hx
  | cons y l ih =>
    obtain ⟨hy, hl⟩ := List.nodup_cons.mp hn
    by_cases e : y = x
    · subst e
      have e2 : l.filter (fun z => !upd s y z) = l.filter (fun z => !s z) := List.filter_congr (fun z hz => by unfold upd; rw [if_neg (by rintro rfl; exact hy hz)])
      rw [List.filter_cons_of_neg (by simp [upd]), List.filter_cons_of_pos (by simp [hs]), e2]; rfl
    · have hx' : x ∈ l := by rcases List.mem_cons.mp hx with e' | e'; exact absurd e'.symm e; exact e'
      have e3 : upd s x y = s y := by unfold upd; rw [if_neg e]
      have := ih hl hx'
      cases hsy : s y with
      | true => rw [List.filter_cons_of_neg (by simp [e3, hsy]), List.filter_cons_of_neg (by simp [hsy])]; exact this
      | false => rw [List.filter_cons_of_pos (by simp [e3, hsy]), List.filter_cons_of_pos (by simp [hsy]), List.length_cons, List.length_cons]; omega
theorem cnt_upd {n : Nat} {s : Sn} {x : Nat} (hx : x < n) (hs : s x = false) : cnt n (upd s x) + 1 = cnt n s :=
  filter_upd _ List.nodup_range s x (List.mem_range.mpr hx) hs
theorem cnt_pos {n : Nat} {s : Sn} {x : Nat} (hx : x < n) (hs : s x = false) : 0 < cnt n s := by have := cnt_upd hx hs; omega

/-- On from a block: what is seen, and what was left, the first one first. -/
def visit (S : List (List Nat)) : Nat → Nat → Sn × List Nat → Sn × List Nat
  | 0, _, st => st
  | f + 1, x, st =>
    let r := (S.getD x []).foldl (fun st y => if st.1 y = true then st else visit S f y st) (upd st.1 x, st.2)
    (r.1, r.2 ++ [x])
def steps (S : List (List Nat)) (f : Nat) (l : List Nat) (st : Sn × List Nat) : Sn × List Nat := l.foldl (fun st y => if st.1 y = true then st else visit S f y st) st
theorem visit_succ (S : List (List Nat)) (f x : Nat) (st : Sn × List Nat) : visit S (f + 1) x st = ((steps S f (S.getD x []) (upd st.1 x, st.2)).1, (steps S f (S.getD x []) (upd st.1 x, st.2)).2 ++ [x]) := rfl
theorem steps_cons (S : List (List Nat)) (f y : Nat) (l : List Nat) (st : Sn × List Nat) : steps S f (y :: l) st = steps S f l (if st.1 y = true then st else visit S f y st) := rfl

/-- What can be reached. -/
inductive Rch (S : List (List Nat)) (w : Int) (r : Nat) : Nat → Prop
  | base : (r : Int) ≠ w → Rch S w r r
  | step {a y : Nat} : Rch S w r a → y ∈ S.getD a [] → (y : Int) ≠ w → Rch S w r y
theorem Rch.lt {S : List (List Nat)} (h : Gr S) {w : Int} {r : Nat} (hr : r < S.length) {x : Nat} (hx : Rch S w r x) : x < S.length := by
  induction hx with
  | base _ => exact hr
  | @step a y _ hy _ ih => exact (h.row a ih).2 y hy
theorem Rch.trans {S : List (List Nat)} {w : Int} {r a b : Nat} (h1 : Rch S w r a) (h2 : Rch S w a b) : Rch S w r b := by
  induction h2 with
  | base _ => exact h1
  | step _ hy hw ih => exact .step ih hy hw

/-- What a way through comes to. -/
structure Vis (S : List (List Nat)) (n : Nat) (st r : Sn × List Nat) : Prop where
  new : ∃ l, r.2 = st.2 ++ l ∧ (∀ z, r.1 z = true ↔ st.1 z = true ∨ z ∈ l) ∧ l.Nodup ∧ (∀ z ∈ l, st.1 z = false ∧ z < n) ∧ l.length + cnt n r.1 = cnt n st.1
theorem Vis.mono {S : List (List Nat)} {n : Nat} {st r : Sn × List Nat} (h : Vis S n st r) {z : Nat} (hz : st.1 z = true) : r.1 z = true := by
  obtain ⟨l, _, h2, _⟩ := h.new; exact (h2 z).mpr (.inl hz)
theorem Vis.refl (S : List (List Nat)) (n : Nat) (st : Sn × List Nat) : Vis S n st st := ⟨⟨[], by simp, by simp, by simp, by simp, by simp⟩⟩
theorem Vis.trans {S : List (List Nat)} {n : Nat} {a b c : Sn × List Nat} (h1 : Vis S n a b) (h2 : Vis S n b c) : Vis S n a c := by
  obtain ⟨l1, e1, s1, n1, u1, c1⟩ := h1.new
  obtain ⟨l2, e2, s2, n2, u2, c2⟩ := h2.new
  refine ⟨⟨l1 ++ l2, by rw [e2, e1, List.append_assoc], fun z => ?_, ?_, fun z hz => ?_, by rw [List.length_append]; omega⟩⟩
  · rw [s2, s1, List.mem_append, or_assoc]
  · rw [List.nodup_append]
    refine ⟨n1, n2, fun x hx y hy e => ?_⟩
    subst e
    have := (u2 _ hy).1
    rw [(s1 x).mpr (.inr hx)] at this; cases this
  · rcases List.mem_append.mp hz with hz | hz
    · exact u1 z hz
    · refine ⟨?_, (u2 z hz).2⟩
      cases ha : a.1 z with
      | false => rfl
      | true => have := (u2 z hz).1; rw [(s1 z).mpr (.inl ha)] at this; cases this

mutual
theorem visit_vis {S : List (List Nat)} (h : Gr S) : ∀ (f x : Nat) (st : Sn × List Nat), x < S.length → st.1 x = false → cnt S.length st.1 ≤ f → Vis S S.length st (visit S f x st) ∧ (visit S f x st).1 x = true
  | 0, x, st, hx, hs, hc => by have := cnt_pos hx hs; omega
  | f + 1, x, st, hx, hs, hc => by
    have hu := cnt_upd hx hs
    have h1 := steps_vis h f (S.getD x []) (upd st.1 x, st.2) (h.row x hx).2 (by show cnt _ (upd st.1 x) ≤ f; omega)
    rw [visit_succ]
    obtain ⟨l, e, s, nd, u, c⟩ := h1.new
    have hxl : x ∉ l := fun hm => by have := (u x hm).1; simp [upd] at this
    refine ⟨⟨⟨l ++ [x], by (show (steps S f (S.getD x []) (upd st.1 x, st.2)).2 ++ [x] = _); rw [e, List.append_assoc], fun z => ?_, ?_, fun z hz => ?_, ?_⟩⟩, (s x).mpr (.inl (upd_self _ _))⟩
    · show _ = true ↔ _
      rw [s]
      show upd st.1 x z = true ∨ _ ↔ _
      rw [upd_true, List.mem_append, List.mem_singleton]
      constructor
      · rintro ((e | e) | e)
        · exact .inr (.inr e)
        · exact .inl e
        · exact .inr (.inl e)
      · rintro (e | e | e)
        · exact .inl (.inr e)
        · exact .inr e
        · exact .inl (.inl e)
    · rw [List.nodup_append]
      refine ⟨nd, by simp, fun a ha b hb e' => ?_⟩
      rw [List.mem_singleton] at hb; rw [e', hb] at ha; exact hxl ha
    · rcases List.mem_append.mp hz with hz | hz
      · refine ⟨?_, (u z hz).2⟩
        have h2 := (u z hz).1
        cases ha : st.1 z with
        | false => rfl
        | true => have : upd st.1 x z = true := upd_true.mpr (.inr ha)
                  have h3 : upd st.1 x z = false := h2
                  rw [this] at h3; cases h3
      · rw [List.mem_singleton] at hz; subst hz; exact ⟨hs, hx⟩
    · rw [List.length_append, List.length_singleton]
      have c' : l.length + cnt S.length (steps S f (S.getD x []) (upd st.1 x, st.2)).1 = cnt S.length (upd st.1 x) := c
      show _ + cnt S.length (steps S f (S.getD x []) (upd st.1 x, st.2)).1 = _
      omega
theorem steps_vis {S : List (List Nat)} (h : Gr S) : ∀ (f : Nat) (l : List Nat) (st : Sn × List Nat), (∀ y ∈ l, y < S.length) → cnt S.length st.1 ≤ f → Vis S S.length st (steps S f l st)
  | _, [], st, _, _ => Vis.refl _ _ _
  | f, y :: l, st, hl, hc => by
    rw [steps_cons]
    by_cases hy : st.1 y = true
    · rw [if_pos hy]; exact steps_vis h f l st (fun z hz => hl z (List.mem_cons_of_mem _ hz)) hc
    · rw [if_neg hy]
      have h1 := (visit_vis h f y st (hl y (List.mem_cons_self ..)) (by simpa using hy) hc).1
      have h2 := steps_vis h f l (visit S f y st) (fun z hz => hl z (List.mem_cons_of_mem _ hz)) (Nat.le_trans (cnt_le (fun z hz => h1.mono hz)) hc)
      exact h1.trans h2
end
theorem steps_seen {S : List (List Nat)} (h : Gr S) (f : Nat) : ∀ (l : List Nat) (st : Sn × List Nat), (∀ y ∈ l, y < S.length) → cnt S.length st.1 ≤ f → ∀ y ∈ l, (steps S f l st).1 y = true := by
  intro l
  induction l with
  | nil => intro st _ _ y hy; simp at hy
  | cons x l ih =>
    intro st hl hc y hy
    rw [steps_cons]
    have hl' : ∀ z ∈ l, z < S.length := fun z hz => hl z (List.mem_cons_of_mem _ hz)
    by_cases hx : st.1 x = true
    · rw [if_pos hx]
      rcases List.mem_cons.mp hy with e | e
      · subst e; exact (steps_vis h f l st hl' hc).mono hx
      · exact ih st hl' hc y e
    · rw [if_neg hx]
      obtain ⟨h1, h2⟩ := visit_vis h f x st (hl x (List.mem_cons_self ..)) (by simpa using hx) hc
      have hc' : cnt S.length (visit S f x st).1 ≤ f := Nat.le_trans (cnt_le (fun z hz => h1.mono hz)) hc
      rcases List.mem_cons.mp hy with e | e
      · subst e; exact (steps_vis h f l _ hl' hc').mono h2
      · exact ih _ hl' hc' y e


/-! #### what is reached -/
mutual
theorem visit_rch {S : List (List Nat)} (r : Nat) : ∀ (f x : Nat) (st : Sn × List Nat), Rch S (-1) r x → ∀ z, (visit S f x st).1 z = true → st.1 z = true ∨ Rch S (-1) r z
  | 0, _, _, _, z, hz => .inl hz
  | f + 1, x, st, hx, z, hz => by
    rw [visit_succ] at hz
    rcases steps_rch r f (S.getD x []) (upd st.1 x, st.2) (fun y hy => .step hx hy (by omega)) z hz with e | e
    · rcases upd_true.mp e with e | e
      · subst e; exact .inr hx
      · exact .inl e
    · exact .inr e
theorem steps_rch {S : List (List Nat)} (r : Nat) : ∀ (f : Nat) (l : List Nat) (st : Sn × List Nat), (∀ y ∈ l, Rch S (-1) r y) → ∀ z, (steps S f l st).1 z = true → st.1 z = true ∨ Rch S (-1) r z
  | _, [], _, _, z, hz => .inl hz
  | f, y :: l, st, hl, z, hz => by
    rw [steps_cons] at hz
    have hl' : ∀ y ∈ l, Rch S (-1) r y := fun z hz => hl z (List.mem_cons_of_mem _ hz)
    by_cases hy : st.1 y = true
    · rw [if_pos hy] at hz; exact steps_rch r f l st hl' z hz
    · rw [if_neg hy] at hz
      rcases steps_rch r f l _ hl' z hz with e | e
      · exact visit_rch r f y st (hl y (List.mem_cons_self ..)) z e
      · exact .inr e
end
mutual
theorem visit_closed {S : List (List Nat)} (h : Gr S) : ∀ (f x : Nat) (st : Sn × List Nat), x < S.length → st.1 x = false → cnt S.length st.1 ≤ f → ∀ z, (visit S f x st).1 z = true → st.1 z = true ∨ ∀ y ∈ S.getD z [], (visit S f x st).1 y = true
  | 0, x, st, hx, hs, hc, _, _ => by have := cnt_pos hx hs; omega
  | f + 1, x, st, hx, hs, hc, z, hz => by
    have hu := cnt_upd hx hs
    have hcu : cnt S.length (upd st.1 x) ≤ f := by omega
    rw [visit_succ] at hz ⊢
    rcases steps_closed h f (S.getD x []) (upd st.1 x, st.2) (h.row x hx).2 hcu z hz with e | e
    · rcases upd_true.mp e with e | e
      · subst e; exact .inr (steps_seen h f _ _ (h.row z hx).2 hcu)
      · exact .inl e
    · exact .inr e
theorem steps_closed {S : List (List Nat)} (h : Gr S) : ∀ (f : Nat) (l : List Nat) (st : Sn × List Nat), (∀ y ∈ l, y < S.length) → cnt S.length st.1 ≤ f → ∀ z, (steps S f l st).1 z = true → st.1 z = true ∨ ∀ y ∈ S.getD z [], (steps S f l st).1 y = true
  | _, [], _, _, _, z, hz => .inl hz
  | f, y :: l, st, hl, hc, z, hz => by
    rw [steps_cons] at hz ⊢
    have hl' : ∀ y ∈ l, y < S.length := fun z hz => hl z (List.mem_cons_of_mem _ hz)
    by_cases hy : st.1 y = true
    · rw [if_pos hy] at hz ⊢; exact steps_closed h f l st hl' hc z hz
    · rw [if_neg hy] at hz ⊢
      have hy' : st.1 y = false := by simpa using hy
      have h1 := (visit_vis h f y st (hl y (List.mem_cons_self ..)) hy' hc).1
      have hc' : cnt S.length (visit S f y st).1 ≤ f := Nat.le_trans (cnt_le (fun z hz => h1.mono hz)) hc
      rcases steps_closed h f l _ hl' hc' z hz with e | e
      · rcases visit_closed h f y st (hl y (List.mem_cons_self ..)) hy' hc z e with e | e
        · exact .inl e
        · exact .inr (fun w hw => (steps_vis h f l _ hl' hc').mono (e w hw))
      · exact .inr e
end

/-! #### where all ways go up -/
/-- Each block ahead of which all those at which it goes on are left. -/
def Ord (S : List (List Nat)) (o : List Nat) : Prop := ∀ l a t, o = l ++ a :: t → ∀ y ∈ S.getD a [], y ∈ l
theorem ord_snoc {S : List (List Nat)} {o : List Nat} {x : Nat} (h : Ord S o) (hx : ∀ y ∈ S.getD x [], y ∈ o) : Ord S (o ++ [x]) := by
  intro l a t e y hy
  rcases List.append_eq_append_iff.mp e with ⟨m, hm1, hm2⟩ | ⟨m, hm1, hm2⟩
  · cases m with
    | nil =>
      have e2 : x :: [] = a :: t := by simpa using hm2
      injection e2 with e3 e4
      subst e3
      rw [List.append_nil] at hm1; subst hm1
      exact hx y hy
    | cons b m =>
      have e2 : [x] = (b :: m) ++ a :: t := hm2
      have := congrArg List.length e2
      simp only [List.length_append, List.length_cons, List.length_nil] at this; omega
  · cases m with
    | nil =>
      have e2 : a :: t = [x] := by simpa using hm2
      injection e2 with e3 e4
      subst e3
      rw [List.append_nil] at hm1; subst hm1
      exact hx y hy
    | cons b m =>
      have e2 : a :: t = (b :: m) ++ [x] := hm2
      injection e2 with e3 e4
      subst e3
      exact h l a m hm1 y hy
mutual
theorem visit_ord {S : List (List Nat)} (h : Gr S) (up : ∀ i, ∀ y ∈ S.getD i [], i < y) : ∀ (f x : Nat) (st : Sn × List Nat), x < S.length → st.1 x = false → cnt S.length st.1 ≤ f → Ord S st.2 → (∀ z, st.1 z = true → z ∈ st.2 ∨ z < x) → Ord S (visit S f x st).2
  | 0, x, st, hx, hs, hc, _, _ => by have := cnt_pos hx hs; omega
  | f + 1, x, st, hx, hs, hc, ho, hlt => by
    have hu := cnt_upd hx hs
    have hcu : cnt S.length (upd st.1 x) ≤ f := by omega
    rw [visit_succ]
    have hy := up x
    obtain ⟨h1, h2⟩ := steps_ord h up f x (S.getD x []) (upd st.1 x, st.2) (fun y hm => ⟨(h.row x hx).2 y hm, hy y hm⟩) hcu ho (fun z hz => by
      rcases upd_true.mp hz with e | e
      · exact .inr (Nat.le_of_eq e)
      · rcases hlt z e with e | e
        · exact .inl e
        · exact .inr (Nat.le_of_lt e))
    refine ord_snoc h1 (fun y hm => ?_)
    rcases h2 y (steps_seen h f _ _ (h.row x hx).2 hcu y hm) with e | e
    · exact e
    · have := hy y hm; omega
theorem steps_ord {S : List (List Nat)} (h : Gr S) (up : ∀ i, ∀ y ∈ S.getD i [], i < y) : ∀ (f x : Nat) (l : List Nat) (st : Sn × List Nat), (∀ y ∈ l, y < S.length ∧ x < y) → cnt S.length st.1 ≤ f → Ord S st.2 → (∀ z, st.1 z = true → z ∈ st.2 ∨ z ≤ x) → Ord S (steps S f l st).2 ∧ ∀ z, (steps S f l st).1 z = true → z ∈ (steps S f l st).2 ∨ z ≤ x
  | _, _, [], _, _, _, ho, hlt => ⟨ho, hlt⟩
  | f, x, y :: l, st, hl, hc, ho, hlt => by
    rw [steps_cons]
    have hl' : ∀ y ∈ l, y < S.length ∧ x < y := fun z hz => hl z (List.mem_cons_of_mem _ hz)
    by_cases hy : st.1 y = true
    · rw [if_pos hy]; exact steps_ord h up f x l st hl' hc ho hlt
    · rw [if_neg hy]
      have hy' : st.1 y = false := by simpa using hy
      obtain ⟨hyn, hyx⟩ := hl y (List.mem_cons_self ..)
      have h1 := (visit_vis h f y st hyn hy' hc).1
      have hc' : cnt S.length (visit S f y st).1 ≤ f := Nat.le_trans (cnt_le (fun z hz => h1.mono hz)) hc
      refine steps_ord h up f x l _ hl' hc' (visit_ord h up f y st hyn hy' hc ho (fun z hz => ?_)) (fun z hz => ?_)
      · rcases hlt z hz with e | e
        · exact .inl e
        · exact .inr (by omega)
      · obtain ⟨n, e1, e2, _⟩ := h1.new
        rw [e1]
        rcases (e2 z).mp hz with e | e
        · rcases hlt z e with e | e
          · exact .inl (List.mem_append.mpr (.inl e))
          · exact .inr e
        · exact .inl (List.mem_append.mpr (.inr e))
end

/-! #### the order from a root -/
def none' : Sn := fun _ => false
theorem cnt_none (n : Nat) : cnt n none' = n := by
  show ((List.range n).filter (fun z => !none' z)).length = n
  rw [show (List.range n).filter (fun z => !none' z) = List.range n from List.filter_eq_self.mpr (fun _ _ => rfl), List.length_range]
def dfs (S : List (List Nat)) (r : Nat) : List Nat := (visit S S.length r (none', [])).2.reverse
theorem dfs_vis {S : List (List Nat)} (h : Gr S) {r : Nat} (hr : r < S.length) : Vis S S.length (none', []) (visit S S.length r (none', [])) ∧ (visit S S.length r (none', [])).1 r = true :=
  visit_vis h S.length r (none', []) hr rfl (Nat.le_of_eq (cnt_none _))
theorem dfs_seen {S : List (List Nat)} (h : Gr S) {r : Nat} (hr : r < S.length) (z : Nat) : z ∈ dfs S r ↔ (visit S S.length r (none', [])).1 z = true := by
  obtain ⟨l, e1, e2, _⟩ := (dfs_vis h hr).1.new
  rw [dfs, List.mem_reverse, e1, e2, List.nil_append]
  constructor
  · exact .inr
  · rintro (e | e)
    · cases e
    · exact e
theorem dfs_mem {S : List (List Nat)} (h : Gr S) {r : Nat} (hr : r < S.length) (z : Nat) : z ∈ dfs S r ↔ Rch S (-1) r z := by
  rw [dfs_seen h hr]
  constructor
  · intro hz
    rcases visit_rch r S.length r (none', []) (.base (by omega)) z hz with e | e
    · cases e
    · exact e
  · intro hz
    induction hz with
    | base _ => exact (dfs_vis h hr).2
    | @step a y _ hy _ ih =>
      rcases visit_closed h S.length r (none', []) hr rfl (Nat.le_of_eq (cnt_none _)) a ih with e | e
      · cases e
      · exact e y hy
theorem dfs_nodup {S : List (List Nat)} (h : Gr S) {r : Nat} (hr : r < S.length) : (dfs S r).Nodup := by
  obtain ⟨l, e1, _, e3, _⟩ := (dfs_vis h hr).1.new
  rw [dfs, e1, List.nil_append]
  exact (List.reverse_perm l).nodup_iff.mpr e3
theorem dfs_lt {S : List (List Nat)} (h : Gr S) {r : Nat} (hr : r < S.length) : ∀ z ∈ dfs S r, z < S.length := by
  intro z hz
  exact ((dfs_mem h hr z).mp hz).lt h hr
theorem dfs_head {S : List (List Nat)} (h : Gr S) (r : Nat) : ∃ l, dfs S r = r :: l := by
  obtain ⟨f, hf⟩ : ∃ f, S.length = f + 1 := ⟨S.length - 1, by have := h.pos; omega⟩
  refine ⟨(steps S f (S.getD r []) (upd none' r, [])).2.reverse, ?_⟩
  rw [dfs, hf, visit_succ]
  simp
theorem dfs_len {S : List (List Nat)} (h : Gr S) {r : Nat} (hr : r < S.length) : (dfs S r).length ≤ S.length := by
  obtain ⟨l, e1, _, _, _, e5⟩ := (dfs_vis h hr).1.new
  have : cnt S.length none' = S.length := cnt_none _
  have e6 : l.length + cnt S.length (visit S S.length r (none', [])).1 = cnt S.length none' := e5
  rw [dfs, e1, List.length_reverse, List.nil_append]; omega
theorem dfs_ord {S : List (List Nat)} (h : Gr S) (hup : ∀ i, ∀ y ∈ S.getD i [], i < y) {r : Nat} (hr : r < S.length) : ∀ l a t, dfs S r = t ++ a :: l → ∀ y ∈ S.getD a [], y ∈ l := by
  intro l a t e y hy
  have h1 := visit_ord h hup S.length r (none', []) hr rfl (Nat.le_of_eq (cnt_none _)) (fun l a t e => by simp at e) (fun z hz => by cases hz)
  have e2 : (visit S S.length r (none', [])).2 = l.reverse ++ a :: t.reverse := by
    have := congrArg List.reverse e
    rw [dfs, List.reverse_reverse] at this
    rw [this]; simp
  exact List.mem_reverse.mp (h1 _ _ _ e2 y hy)

/-! #### dominance -/
/-- Blocks' places, and from where each is come to from ahead. -/
structure Pl (S : List (List Nat)) (r : Nat) (at_ par : Nat → Nat) : Prop where
  inj : ∀ x y, Rch S (-1) r x → Rch S (-1) r y → at_ x = at_ y → x = y
  par : ∀ x, Rch S (-1) r x → x ≠ r → Rch S (-1) r (par x) ∧ x ∈ S.getD (par x) [] ∧ at_ (par x) < at_ x
/-- A block dominates another one. -/
def Dm (S : List (List Nat)) (r d x : Nat) : Prop := Rch S (-1) r x ∧ ¬ Rch S (d : Int) r x
section
variable {S : List (List Nat)} {r : Nat}
theorem rch_no {d : Nat} : ¬ Rch S (d : Int) r d := fun h => by
  cases h with
  | base h => exact h rfl
  | step _ _ h => exact h rfl
theorem rch_all {w : Int} {x : Nat} (h : Rch S w r x) : Rch S (-1) r x := by
  induction h with
  | base _ => exact .base (by omega)
  | step _ hy _ ih => exact .step ih hy (by omega)
theorem rch_root {w : Int} {x : Nat} (h : Rch S w r x) : Rch S w r r := by
  induction h with
  | base h => exact .base h
  | step _ _ _ ih => exact ih
theorem Dm.rch {d x : Nat} (h : Dm S r d x) : Rch S (-1) r x := h.1
theorem dm_refl {x : Nat} (h : Rch S (-1) r x) : Dm S r x x := ⟨h, rch_no⟩
theorem dm_root {x : Nat} (h : Rch S (-1) r x) : Dm S r r x := ⟨h, fun h' => rch_no (rch_root h')⟩
theorem dm_of_root {d : Nat} (h : Dm S r d r) : d = r := by
  refine Classical.byContradiction (fun hn => h.2 (.base (by omega)))
theorem dm_pred {d x p : Nat} (h : Dm S r d x) (hd : d ≠ x) (hp : Rch S (-1) r p) (hx : x ∈ S.getD p []) : Dm S r d p :=
  ⟨hp, fun h' => h.2 (.step h' hx (by omega))⟩
theorem dm_past {a b c : Nat} (h : Rch S (a : Int) r c) : Dm S r b c → Rch S (a : Int) r b := by
  induction h with
  | base h => intro hb; rw [dm_of_root hb]; exact .base h
  | @step q y hq hy hw ih =>
    intro hb
    by_cases e : b = y
    · subst e; exact .step hq hy hw
    · exact ih (dm_pred hb e (rch_all hq) hy)
theorem dm_trans {a b c : Nat} (h1 : Dm S r a b) (h2 : Dm S r b c) : Dm S r a c := ⟨h2.1, fun h => h1.2 (dm_past h h2)⟩
theorem dm_rch {d x : Nat} (h : Dm S r d x) : Rch S (-1) r d := by
  refine Classical.byContradiction (fun hn => h.2 ?_)
  have : ∀ y, Rch S (-1) r y → Rch S (d : Int) r y := by
    intro y hy
    induction hy with
    | base h0 => exact .base (fun e => hn (by rw [← Int.ofNat_inj.mp e]; exact .base h0))
    | @step a y ha hya _ ih => exact .step ih hya (fun e => hn (by rw [← Int.ofNat_inj.mp e]; exact .step ha hya (by omega)))
  exact this x h.1
variable {at_ par : Nat → Nat}
theorem dm_le (hP : Pl S r at_ par) {d : Nat} : ∀ (n x : Nat), at_ x ≤ n → Dm S r d x → at_ d ≤ at_ x := by
  intro n
  induction n with
  | zero =>
    intro x hx h
    by_cases e : d = x
    · subst e; omega
    · by_cases er : x = r
      · subst er; exact absurd (dm_of_root h) e
      · have := (hP.par x h.1 er).2.2; omega
  | succ n ih =>
    intro x hx h
    by_cases e : d = x
    · subst e; omega
    · by_cases er : x = r
      · subst er; exact absurd (dm_of_root h) e
      · obtain ⟨h1, h2, h3⟩ := hP.par x h.1 er
        have := ih (par x) (by omega) (dm_pred h e h1 h2); omega
theorem dm_antisymm (hP : Pl S r at_ par) {a b : Nat} (h1 : Dm S r a b) (h2 : Dm S r b a) : a = b :=
  hP.inj a b h2.1 h1.1 (Nat.le_antisymm (dm_le hP _ _ (Nat.le_refl _) h1) (dm_le hP _ _ (Nat.le_refl _) h2))
/-- The nearest of those that dominate a block. -/
def Idm (S : List (List Nat)) (r z x : Nat) : Prop := Dm S r z x ∧ z ≠ x ∧ ∀ d, Dm S r d x → d ≠ x → Dm S r d z
theorem idm_unique (hP : Pl S r at_ par) {z z' x : Nat} (h : Idm S r z x) (h' : Idm S r z' x) : z = z' :=
  dm_antisymm hP (h'.2.2 z h.1 h.2.1) (h.2.2 z' h'.1 h'.2.1)

/-! #### trees that are being made -/
abbrev Tr := Nat → Option Nat
/-- One is got to from another one, going up. -/
inductive An (T : Tr) (r c : Nat) : Nat → Prop
  | refl {y : Nat} : T c = some y → An T r c c
  | up {x y : Nat} : T x = some y → x ≠ r → An T r c y → An T r c x
inductive Pa (r z : Nat) (par : Nat → Nat) : Nat → Prop
  | refl : Pa r z par z
  | step {x : Nat} : x ≠ r → Pa r z par (par x) → Pa r z par x
theorem Pa.trans {a b c : Nat} (h1 : Pa r a par b) (h2 : Pa r b par c) : Pa r a par c := by
  induction h2 with
  | refl => exact h1
  | step h _ ih => exact .step h ih
structure Inv (S : List (List Nat)) (r : Nat) (at_ par : Nat → Nat) (T : Tr) : Prop where
  root : T r = some r
  rch : ∀ x y, T x = some y → Rch S (-1) r x
  lt : ∀ x y, T x = some y → x ≠ r → at_ y < at_ x ∧ ∃ z, T y = some z
  pa : ∀ x y, T x = some y → x ≠ r → Pa r y par x
  dom : ∀ x y, T x = some y → x ≠ r → ∀ d, Dm S r d x → d ≠ x → Dm S r d y
  low : ∀ x y, T x = some y → x ≠ r → ∀ c, (∀ p z, x ∈ S.getD p [] → T p = some z → An T r c p) → at_ c ≤ at_ y
theorem An.has {T : Tr} {c x : Nat} (h : An T r c x) : ∃ y, T x = some y := by
  cases h with
  | refl h => exact ⟨_, h⟩
  | up h _ _ => exact ⟨_, h⟩
theorem An.top {T : Tr} {c x : Nat} (h : An T r c x) : ∃ y, T c = some y := by
  induction h with
  | refl h => exact ⟨_, h⟩
  | up _ _ _ ih => exact ih
theorem An.trans {T : Tr} {a b c : Nat} (h1 : An T r a b) (h2 : An T r b c) : An T r a c := by
  induction h2 with
  | refl h => exact h1
  | up h hr _ ih => exact .up h hr ih
theorem An.le {T : Tr} (hI : Inv S r at_ par T) {c x : Nat} (h : An T r c x) : at_ c ≤ at_ x := by
  induction h with
  | refl h => exact Nat.le_refl _
  | up h hr _ ih => have := (hI.lt _ _ h hr).1; omega
theorem An.lt {T : Tr} (hI : Inv S r at_ par T) {c x : Nat} (h : An T r c x) (hc : c ≠ x) : at_ c < at_ x := by
  cases h with
  | refl h => exact absurd rfl hc
  | up h hr h2 => have := (hI.lt _ _ h hr).1; have := h2.le hI; omega
theorem An.pa {T : Tr} (hI : Inv S r at_ par T) {c x : Nat} (h : An T r c x) : Pa r c par x := by
  induction h with
  | refl h => exact .refl
  | up h hr _ ih => exact ih.trans (hI.pa _ _ h hr)
theorem dm_an {T : Tr} (hI : Inv S r at_ par T) {d : Nat} : ∀ (n x y : Nat), at_ x ≤ n → T x = some y → Dm S r d x → An T r d x := by
  intro n
  induction n with
  | zero =>
    intro x y hn hx h
    by_cases e : d = x
    · subst e; exact .refl hx
    · by_cases er : x = r
      · subst er; exact absurd (dm_of_root h) e
      · have := (hI.lt x y hx er).1; omega
  | succ n ih =>
    intro x y hn hx h
    by_cases e : d = x
    · subst e; exact .refl hx
    · by_cases er : x = r
      · subst er; exact absurd (dm_of_root h) e
      · obtain ⟨h1, z, h2⟩ := hI.lt x y hx er
        exact .up hx er (ih y z (by omega) h2 (hI.dom x y hx er d h e))
theorem an_dm {T : Tr} (hI : Inv S r at_ par T) {d m q : Nat} (h : An T r m q) : Dm S r d q → at_ d ≤ at_ m → Dm S r d m := by
  induction h with
  | refl h => exact fun h _ => h
  | @up x y h hr h2 ih =>
    intro hd hl
    have h3 := (hI.lt _ _ h hr).1
    have h4 := h2.le hI
    exact ih (hI.dom _ _ h hr d hd (by rintro rfl; omega)) hl
/-- What is right as it is: it is over all from which one comes. -/
def Fx (S : List (List Nat)) (r : Nat) (T : Tr) (x : Nat) : Prop := ∃ z, T x = some z ∧ ∀ p y, x ∈ S.getD p [] → T p = some y → An T r z p
def put (T : Tr) (x m : Nat) : Tr := fun y => if y = x then some m else T y
theorem put_self (T : Tr) (x m : Nat) : put T x m x = some m := by simp [put]
theorem put_ne {T : Tr} {x m y : Nat} (h : y ≠ x) : put T x m y = T y := by simp [put, h]
/-- The nearest one to which one comes from all. -/
def Best (S : List (List Nat)) (r : Nat) (T : Tr) (x m : Nat) : Prop :=
  (∀ p y, x ∈ S.getD p [] → T p = some y → An T r m p) ∧ ∀ c, (∀ p y, x ∈ S.getD p [] → T p = some y → An T r c p) → An T r c m
theorem best_at (hP : Pl S r at_ par) {T : Tr} (hI : Inv S r at_ par T) {x m : Nat} (hx : Rch S (-1) r x) (hr : x ≠ r) (hF : ∀ y, Rch S (-1) r y → at_ y < at_ x → y ≠ r → Fx S r T y) (hB : Best S r T x m) :
    An T r m (par x) ∧ at_ m < at_ x ∧ Pa r m par x := by
  obtain ⟨h1, h2, h3⟩ := hP.par x hx hr
  have h4 : ∃ y, T (par x) = some y := by
    by_cases e : par x = r
    · rw [e]; exact ⟨_, hI.root⟩
    · obtain ⟨z, hz, _⟩ := hF _ h1 h3 e; exact ⟨z, hz⟩
  obtain ⟨y, h4⟩ := h4
  have h5 := hB.1 _ _ h2 h4
  have h6 := h5.le hI
  exact ⟨h5, by omega, .step hr (h5.pa hI)⟩
theorem best_up (hP : Pl S r at_ par) {T : Tr} (hI : Inv S r at_ par T) {x m y : Nat} (hF : ∀ y, Rch S (-1) r y → at_ y < at_ x → y ≠ r → Fx S r T y) (hm : at_ m ≤ at_ y) {v : Nat} (hpa : Pa r y par v) :
    Rch S (-1) r v → at_ v < at_ x → An T r m v → An T r m y := by
  induction hpa with
  | refl => exact fun _ _ h => h
  | @step v hv hp ih =>
    intro hR hv2 ha
    obtain ⟨h1, h2, h3⟩ := hP.par v hR hv
    have hle : at_ y ≤ at_ (par v) := by
      have : ∀ {w : Nat}, Pa r y par w → Rch S (-1) r w → at_ y ≤ at_ w := by
        intro w hw
        induction hw with
        | refl => exact fun _ => Nat.le_refl _
        | @step w hw _ ih => intro hR'; obtain ⟨g1, _, g3⟩ := hP.par w hR' hw; have := ih g1; omega
      exact this hp h1
    obtain ⟨z, hz, hf⟩ := hF v hR hv2 hv
    have hz2 : ∃ y, T (par v) = some y := by
      by_cases e : par v = r
      · rw [e]; exact ⟨_, hI.root⟩
      · obtain ⟨z, hz, _⟩ := hF _ h1 (by omega) e; exact ⟨z, hz⟩
    obtain ⟨z2, hz2⟩ := hz2
    refine ih h1 (by omega) ?_
    cases ha with
    | refl _ => omega
    | @up _ y' h _ h5 =>
      rw [hz] at h; cases h
      exact h5.trans (hf _ _ h2 hz2)
/-- One more step keeps all of it, and goes up. -/
theorem step_inv (hP : Pl S r at_ par) {T : Tr} (hI : Inv S r at_ par T) {x m : Nat} (hx : Rch S (-1) r x) (hr : x ≠ r) (hF : ∀ y, Rch S (-1) r y → at_ y < at_ x → y ≠ r → Fx S r T y) (hB : Best S r T x m) :
    Inv S r at_ par (put T x m) ∧ ∀ y, T x = some y → m ≠ y → at_ m < at_ y := by
  obtain ⟨h1, h2, h3⟩ := best_at hP hI hx hr hF hB
  obtain ⟨p1, p2, p3⟩ := hP.par x hx hr
  obtain ⟨mz, hmz⟩ := h1.top
  have hmx : m ≠ x := by rintro rfl; omega
  have hup : ∀ y, T x = some y → An T r m y := by
    intro y hy
    have hl := hI.low x y hy hr m hB.1
    have hpa := hI.pa x y hy hr
    cases hpa with
    | refl => have := (hI.lt x x hy hr).1; omega
    | step _ hpa => exact best_up hP hI hF hl hpa p1 p3 h1
  have hdown : ∀ {c v : Nat}, An (put T x m) r c v → ∀ z, T v = some z → An T r c v := by
    intro c v h
    induction h with
    | @refl y h => intro z hz; exact .refl hz
    | @up v y h hv h5 ih =>
      intro z hz
      by_cases e : v = x
      · subst e
        rw [put_self] at h; cases h
        exact .up hz hv ((ih _ hmz).trans (hup _ hz))
      · rw [put_ne e, hz] at h; cases h
        obtain ⟨_, z2, h6⟩ := hI.lt v _ hz hv
        exact .up hz hv (ih _ h6)
  have hthere : ∀ v z, T v = some z → ∃ z', put T x m v = some z' := by
    intro v z hz
    by_cases e : v = x
    · subst e; exact ⟨_, put_self _ _ _⟩
    · exact ⟨z, by rw [put_ne e]; exact hz⟩
  refine ⟨⟨?_, ?_, ?_, ?_, ?_, ?_⟩, ?_⟩
  · rw [put_ne (fun e => hr e.symm)]; exact hI.root
  · intro v y hv
    by_cases e : v = x
    · subst e; exact hx
    · rw [put_ne e] at hv; exact hI.rch _ _ hv
  · intro v y hv hvr
    by_cases e : v = x
    · subst e
      rw [put_self] at hv; cases hv
      exact ⟨h2, mz, by rw [put_ne hmx]; exact hmz⟩
    · rw [put_ne e] at hv
      obtain ⟨h6, z, h7⟩ := hI.lt v y hv hvr
      exact ⟨h6, hthere _ _ h7⟩
  · intro v y hv hvr
    by_cases e : v = x
    · subst e
      rw [put_self] at hv; cases hv; exact h3
    · rw [put_ne e] at hv; exact hI.pa v y hv hvr
  · intro v y hv hvr d hd hdv
    by_cases e : v = x
    · subst e
      rw [put_self] at hv; cases hv
      have hall : ∀ p y, v ∈ S.getD p [] → T p = some y → An T r d p := fun p y hp hy => dm_an hI _ p y (Nat.le_refl _) hy (dm_pred hd hdv (hI.rch _ _ hy) hp)
      exact an_dm hI h1 (dm_pred hd hdv p1 p2) ((hB.2 d hall).le hI)
    · rw [put_ne e] at hv; exact hI.dom v y hv hvr d hd hdv
  · intro v y hv hvr c hc
    have hc' : ∀ p z, v ∈ S.getD p [] → T p = some z → An T r c p := by
      intro p z hp hz
      obtain ⟨z', hz'⟩ := hthere p z hz
      exact hdown (hc p z' hp hz') z hz
    by_cases e : v = x
    · subst e
      rw [put_self] at hv; cases hv
      exact (hB.2 c hc').le hI
    · rw [put_ne e] at hv; exact hI.low v y hv hvr c hc'
  · intro y hy hne
    exact (hup y hy).lt hI hne
/-- Where all is right, each entry is the nearest one that dominates. -/
theorem fix_idm {T : Tr} (hI : Inv S r at_ par T) (hF : ∀ y, Rch S (-1) r y → y ≠ r → Fx S r T y) : ∀ x z, T x = some z → x ≠ r → Idm S r z x := by
  have key : ∀ (c x : Nat), Rch S (c : Int) r x → An T r c x → False := by
    intro c x h
    induction h with
    | base h =>
      intro ha
      cases ha with
      | refl _ => exact h rfl
      | up _ h2 _ => exact h2 rfl
    | @step a x ha hx hw ih =>
      intro hA
      have haR := rch_all ha
      cases hA with
      | refl _ => exact hw rfl
      | @up _ z h2 hr h3 =>
        obtain ⟨z', hz', hf⟩ := hF x (.step haR hx (by omega)) hr
        rw [h2] at hz'; cases hz'
        have : ∃ y, T a = some y := by
          by_cases e : a = r
          · rw [e]; exact ⟨_, hI.root⟩
          · obtain ⟨y, hy, _⟩ := hF a haR e; exact ⟨y, hy⟩
        obtain ⟨y, hy⟩ := this
        exact ih (h3.trans (hf a y hx hy))
  intro x z hx hr
  have hR := hI.rch _ _ hx
  obtain ⟨h1, z2, h2⟩ := hI.lt x z hx hr
  refine ⟨⟨hR, fun h => key z x h (.up hx hr (.refl h2))⟩, by rintro rfl; omega, hI.dom x z hx hr⟩
end
end Go.Proofs.Ytoekeknfeinphaa.GP
namespace Go.Proofs.Ytoekeknfeinphaa.GP
open Go.RowKit Go.Proofs.Ytoekeknfeinphaa.G Go.Proofs.YtoekeknfeinphaaW.PrintWords

/-! #### slices.Reverse -/
def rv (l : List Int) (n i t : Nat) : Int := if t < i ∨ n ≤ t + i then l.getD (n - 1 - t) 0 else l.getD t 0
theorem rv_end (l : List Int) (n i : Nat) (hn : l.length = n) (hi : n ≤ 2 * i + 1) : (List.range n).map (rv l n i) = l.reverse := by
  apply ext_getD 0
  · simp [hn]
  · intro t ht
    rw [List.length_map, List.length_range] at ht
    rw [getD_map_range _ _ _ _ ht]
    have e1 : l.reverse.getD t 0 = l.getD (n - 1 - t) 0 := by
      rw [List.getD_eq_getElem?_getD, List.getD_eq_getElem?_getD, List.getElem?_reverse (by omega), hn]
    rw [e1]
    unfold rv
    split
    · rfl
    · next hc => rw [show n - 1 - t = t by omega]
theorem reverse_l0 (l : List Int) (n : Nat) (hn : l.length = n) (hb : n ≤ big) (d : Nat) : ∀ i, 2 * i ≤ n + 1 → n + 1 - 2 * i ≤ d → Ev (fun k => slices_Reverse_int_int.l0 k ((List.range n).map (rv l n i)) (i : Int) ((n : Int) - 1 - (i : Int))) l.reverse := by
  have hbb : big = 9223372036854775807 := rfl
  induction d with
  | zero =>
    intro i hi hd
    refine Ev.succ ?_; simp only [slices_Reverse_int_int.l0]
    refine Ev.ifn (by omega) ?_
    rw [rv_end l n i hn (by omega)]; exact Ev.pure
  | succ d ih =>
    intro i hi hd
    refine Ev.succ ?_; simp only [slices_Reverse_int_int.l0]
    by_cases hc : (i : Int) < (n : Int) - 1 - (i : Int)
    · refine Ev.ifp hc (Ev.ifp (by omega) (Ev.ifp (by simp; omega) (Ev.ifp (by omega) (Ev.ifp (by simp; omega) ?_))))
      have ej : (n : Int) - 1 - (i : Int) = ((n - 1 - i : Nat) : Int) := by omega
      rw [ej]
      have r1 : rd ((List.range n).map (rv l n i)) ((n - 1 - i : Nat) : Int) = l.getD (n - 1 - i) 0 := by
        simp only [rd, Int.toNat_natCast]
        rw [getD_map_range _ _ _ _ (by omega)]
        unfold rv; rw [if_neg (by omega)]
      have r2 : rd ((List.range n).map (rv l n i)) ((i : Nat) : Int) = l.getD i 0 := by
        simp only [rd, Int.toNat_natCast]
        rw [getD_map_range _ _ _ _ (by omega)]
        unfold rv; rw [if_neg (by omega)]
      rw [r1, r2, Int.toNat_natCast, Int.toNat_natCast]
      have s1 : ((List.range n).map (rv l n i)).set i (l.getD (n - 1 - i) 0) = (List.range n).map (fun t => if t = i then l.getD (n - 1 - i) 0 else rv l n i t) :=
        set_map_range _ _ _ _ _ (by simp) (fun j hj => by simp [hj])
      have s2 : ((List.range n).map (fun t => if t = i then l.getD (n - 1 - i) 0 else rv l n i t)).set (n - 1 - i) (l.getD i 0) = (List.range n).map (rv l n (i + 1)) := by
        refine set_map_range _ _ _ _ _ ?_ (fun j hj => ?_)
        · unfold rv; rw [if_pos (by omega), show n - 1 - (n - 1 - i) = i by omega]
        · by_cases e : j = i
          · subst e; rw [if_pos rfl]; unfold rv; rw [if_pos (by omega)]
          · rw [if_neg e]; unfold rv
            by_cases hq : j < i ∨ n ≤ j + i
            · rw [if_pos hq, if_pos (by omega)]
            · rw [if_neg hq, if_neg (by omega)]
      rw [s1, s2, wrap_nat (by omega), wrap_id (by omega) (by omega), show ((n - 1 - i : Nat) : Int) - 1 = (n : Int) - 1 - ((i + 1 : Nat) : Int) by omega]
      exact ih (i + 1) (by omega) (by omega)
    · refine Ev.ifn hc ?_
      rw [rv_end l n i hn (by omega)]; exact Ev.pure
theorem reverse_ok (l : List Int) (hb : l.length ≤ big) : Ev (fun k => slices_Reverse_int_int.f k l) l.reverse := by
  have hbb : big = 9223372036854775807 := rfl
  unfold slices_Reverse_int_int.f
  have e : l = (List.range l.length).map (rv l l.length 0) := by
    apply ext_getD 0
    · simp
    · intro t ht
      rw [getD_map_range _ _ _ _ ht]
      unfold rv; rw [if_neg (by omega)]
  have h := reverse_l0 l l.length rfl hb (l.length + 1) 0 (by omega) (by omega)
  rw [← e] at h
  rw [wrap_id (by omega) (by omega)]
  simpa using h

/-! #### the machine's state -/
def rb (s : Sn) : List Bool := (List.range 64).map s
def ri (nx : Nat → Nat) : List Int := (List.range 64).map (fun z => ((nx z : Nat) : Int))
def updn (nx : Nat → Nat) (x m : Nat) : Nat → Nat := fun z => if z = x then m else nx z
theorem rd_rb (s : Sn) {y : Nat} (h : y < 64) : rdOf false (rb s) (y : Int) = s y := by
  simp only [rdOf, Int.toNat_natCast, rb]; exact getD_map_range _ _ _ _ h
theorem rd_ri (nx : Nat → Nat) {y : Nat} (h : y < 64) : rd (ri nx) (y : Int) = ((nx y : Nat) : Int) := by
  simp only [rd, Int.toNat_natCast, ri]; exact getD_map_range 64 (fun z => ((nx z : Nat) : Int)) _ _ h
theorem set_rb (s : Sn) (y : Nat) : (rb s).set y true = rb (upd s y) :=
  set_map_range _ _ _ _ _ (by simp [upd]) (fun j hj => by simp [upd, hj])
theorem set_ri (nx : Nat → Nat) (x m : Nat) : (ri nx).set x (m : Int) = ri (updn nx x m) :=
  set_map_range _ _ _ _ _ (by simp [updn]) (fun j hj => by simp [updn, hj])
theorem up_snoc (l : List Nat) (x : Nat) : up (l ++ [x]) = up l ++ [(x : Int)] := by simp [up]
theorem rd_snoc (l : List Nat) (x : Nat) : rd (up (l ++ [x])) (l.length : Int) = (x : Int) := by
  rw [rd_up, List.getD_eq_getElem?_getD, List.getElem?_append_right (Nat.le_refl _)]; simp

def After (S : List (List Nat)) (P : List (List Int)) (sn : Sn) (nx : Nat → Nat) (o st : List Nat) (v : List Int) : Prop :=
  Ev (fun k => if ((up st).length : Int) > 0 then graph_Order.l0 k (rb sn) (ri nx) (up o) (up st) (up2 S) P else (slices_Reverse_int_int.f k (up o)).bind fun t => some t) v
theorem order_l0 {S : List (List Nat)} {P : List (List Int)} {sn : Sn} {nx : Nat → Nat} {o st : List Nat} {x : Nat} {v : List Int} (hb : st.length ≤ 64)
    (h : Ev (fun k => graph_Order.l1 k (rb sn) (ri nx) (up o) (up (st ++ [x])) (x : Int) (up2 S) P) v) : Ev (fun k => graph_Order.l0 k (rb sn) (ri nx) (up o) (up (st ++ [x])) (up2 S) P) v := by
  refine Ev.succ ?_; simp only [graph_Order.l0]
  have e : wrap64 (((up (st ++ [x])).length : Int) - 1) = (st.length : Int) := by
    rw [up_length, List.length_append, List.length_singleton, wrap_id (by omega) (by omega)]; omega
  rw [e, rd_snoc]
  exact Ev.ifp (by omega) (Ev.ifp (by rw [up_length, List.length_append, List.length_singleton]; omega) h)

theorem sim {S : List (List Nat)} (h : Gr S) (P : List (List Int)) (v : List Int) : ∀ (f x : Nat) (sn : Sn) (nx : Nat → Nat) (o st : List Nat), x < S.length → sn x = false → cnt S.length sn ≤ f → (∀ z, sn z = false → nx z = 0) →
    o.length + st.length + cnt S.length sn ≤ 64 →
    (∀ nx', (∀ z, (visit S f x (sn, o)).1 z = false → nx' z = 0) → (∀ z, sn z = true → nx' z = nx z) → After S P (visit S f x (sn, o)).1 nx' (visit S f x (sn, o)).2 st v) →
    Ev (fun k => graph_Order.l1 k (rb (upd sn x)) (ri nx) (up o) (up (st ++ [x])) (x : Int) (up2 S) P) v := by
  have hle := h.le
  intro f
  induction f with
  | zero => intro x sn nx o st hx hs hc; have := cnt_pos hx hs; omega
  | succ f ihf =>
    intro x sn nx o st hx hs hc hz0 hB hK
    have hu := cnt_upd hx hs
    have hdeg := gr_len h hx
    rw [visit_succ] at hK
    have inner : ∀ (m j : Nat) (sn1 : Sn) (nx1 : Nat → Nat) (o1 : List Nat), (S.getD x []).length - j = m → j ≤ (S.getD x []).length → nx1 x = j → sn1 x = true → (∀ z, sn1 z = false → nx1 z = 0) → cnt S.length sn1 ≤ f →
        o1.length + (st.length + 1) + cnt S.length sn1 ≤ 64 → (∀ z, sn z = true → sn1 z = true ∧ nx1 z = nx z) → steps S f ((S.getD x []).drop j) (sn1, o1) = steps S f (S.getD x []) (upd sn x, o) →
        Ev (fun k => graph_Order.l1 k (rb sn1) (ri nx1) (up o1) (up (st ++ [x])) (x : Int) (up2 S) P) v := by
      intro m
      induction m with
      | zero =>
        intro j sn1 nx1 o1 hm hj hnx hsx hzz hcc hbb hkeep heq
        refine Ev.succ ?_; simp only [graph_Order.l1]
        rw [rdL_up, up_length, rd_ri nx1 (by omega), hnx]
        refine Ev.ifp (by omega) (Ev.ifp (by omega) (Ev.ifp (by rw [up2_length]; omega) (Ev.ifn (by omega) (Ev.ifp (by rw [up_length]; omega) ?_))))
        simp only [Option.bind_some]
        have e : wrap64 (((up (st ++ [x])).length : Int) - 1) = (st.length : Int) := by
          rw [up_length, List.length_append, List.length_singleton, wrap_id (by omega) (by omega)]; omega
        rw [e, Int.toNat_natCast]
        refine Ev.ifp (by omega) (Ev.ifp (by rw [up_length, List.length_append, List.length_singleton]; omega) ?_)
        have e2 : (up (st ++ [x])).take st.length = up st := by rw [up_snoc]; simp [up]
        rw [e2, ← up_snoc]
        rw [List.drop_of_length_le (by omega)] at heq
        have e3 : steps S f (S.getD x []) (upd sn x, o) = (sn1, o1) := heq.symm
        rw [e3] at hK
        exact hK nx1 hzz (fun z hz => (hkeep z hz).2)
      | succ m ihm =>
        intro j sn1 nx1 o1 hm hj hnx hsx hzz hcc hbb hkeep heq
        have hj1 : j < (S.getD x []).length := by omega
        have hy := (h.row x hx).2 _ (getD_mem (d := 0) hj1)
        have hxS : sn x = false := hs
        rw [drop_getD _ j 0 hj1, steps_cons] at heq
        refine Ev.succ ?_; simp only [graph_Order.l1]
        rw [rdL_up, up_length, rd_ri nx1 (by omega), hnx, rd_up]
        generalize (S.getD x []).getD j 0 = y at hy heq
        refine Ev.ifp (by omega) (Ev.ifp (by omega) (Ev.ifp (by rw [up2_length]; omega) (Ev.ifp (by omega) (Ev.ifp (by omega) ?_))))
        rw [wrap_nat (by omega), Int.toNat_natCast, set_ri]
        simp only [Option.bind_some]
        refine Ev.ifp (by omega) (Ev.ifp (by omega) ?_)
        rw [rd_rb sn1 (by omega)]
        have hkeep2 : ∀ z, sn z = true → sn1 z = true ∧ updn nx1 x (j + 1) z = nx z := fun z hz => by
          refine ⟨(hkeep z hz).1, ?_⟩
          unfold updn; rw [if_neg (by rintro rfl; rw [hz] at hxS; cases hxS)]; exact (hkeep z hz).2
        have hzz2 : ∀ z, sn1 z = false → updn nx1 x (j + 1) z = 0 := fun z hz => by
          unfold updn; rw [if_neg (by rintro rfl; rw [hz] at hsx; cases hsx)]; exact hzz z hz
        by_cases hys : sn1 y = true
        · refine Ev.ifp hys ?_
          rw [if_pos hys] at heq
          exact ihm (j + 1) sn1 (updn nx1 x (j + 1)) o1 (by omega) (by omega) (by simp [updn]) hsx hzz2 hcc hbb hkeep2 heq
        · refine Ev.ifn hys (Ev.ifp (by rw [up_length, List.length_append, List.length_singleton]; omega) ?_)
          rw [if_neg hys] at heq
          have hys' : sn1 y = false := by simpa using hys
          rw [Int.toNat_natCast, set_rb, ← up_snoc]
          refine order_l0 (by rw [List.length_append, List.length_singleton]; omega) ?_
          refine ihf y sn1 (updn nx1 x (j + 1)) o1 (st ++ [x]) hy hys' hcc hzz2 (by rw [List.length_append, List.length_singleton]; omega) (fun nx' hn1 hn2 => ?_)
          have hvis := (visit_vis h f y (sn1, o1) hy hys' hcc).1
          obtain ⟨l, e1, e2, _, _, e5⟩ := hvis.new
          have hmono : ∀ z, sn1 z = true → (visit S f y (sn1, o1)).1 z = true := fun z hz => hvis.mono hz
          unfold After
          refine Ev.ifp (by rw [up_length, List.length_append, List.length_singleton]; omega) ?_
          refine order_l0 (by omega) ?_
          have e5' : l.length + cnt S.length (visit S f y (sn1, o1)).1 = cnt S.length sn1 := e5
          have e1' : (visit S f y (sn1, o1)).2 = o1 ++ l := e1
          refine ihm (j + 1) _ nx' _ (by omega) (by omega) (by rw [hn2 x hsx]; simp [updn]) (hmono x hsx) hn1 (Nat.le_trans (cnt_le hmono) hcc) ?_ (fun z hz => ⟨hmono z (hkeep z hz).1, by rw [hn2 z (hkeep z hz).1]; exact (hkeep2 z hz).2⟩) heq
          rw [e1', List.length_append]; omega
    exact inner _ 0 (upd sn x) nx o rfl (by omega) (hz0 x hs) (upd_self _ _) (fun z hz => hz0 z (by
      cases hq : sn z with
      | false => rfl
      | true => rw [upd_true.mpr (.inr hq)] at hz; cases hz)) (by omega) (by omega) (fun z hz => ⟨upd_true.mpr (.inr hz), rfl⟩) rfl

theorem order_ok {S : List (List Nat)} (h : Gr S) {r : Nat} (hr : r < S.length) : Ev (fun k => graph_Order.f k (up2 S) (up2 (pr S)) (r : Int)) (up (dfs S r)) := by
  have hle := h.le
  unfold graph_Order.f
  refine Ev.bind (may_ok h _) ?_
  refine Ev.ifp (by simp) (Ev.ifn (by omega) ?_)
  refine Ev.succ ?_; simp only [graph_Order.j0]
  refine Ev.ifn (by rw [up2_length]; simp; omega) (Ev.ifp (by omega) (Ev.ifp (by omega) ?_))
  have e1 : (List.replicate 64 false).set ((r : Int)).toNat true = rb (upd none' r) := by
    rw [Int.toNat_natCast, ← set_rb]; rfl
  have e2 : List.replicate 64 (0 : Int) = ri (fun _ => 0) := rfl
  rw [e1, e2]
  have hl := dfs_len h hr
  have := sim h (up2 (pr S)) (up (dfs S r)) S.length r none' (fun _ => 0) [] [] hr rfl (Nat.le_of_eq (cnt_none _)) (fun _ _ => rfl) (by rw [cnt_none]; simp; exact hle) (fun nx' _ _ => by
    unfold After
    refine Ev.ifn (by simp) ?_
    refine Ev.bind (reverse_ok _ ?_) (Ev.pure.of_eq ?_)
    · rw [up_length]
      have e : (dfs S r).length = (visit S S.length r (none', [])).2.length := by rw [dfs, List.length_reverse]
      simp only [big]; omega
    · rw [dfs, up, up, List.map_reverse])
  exact order_l0 (st := []) (by simp) this
theorem order_out {S : List (List Nat)} (h : Gr S) (p : List (List Int)) (r : Int) (hr : r < 0 ∨ (S.length : Int) ≤ r) : Ev (fun k => graph_Order.f k (up2 S) p r) [] := by
  unfold graph_Order.f
  refine Ev.bind (may_ok h _) ?_
  have hj : Ev (fun k => graph_Order.j0 k r true (up2 S) p) ([] : List Int) := by
    refine Ev.succ ?_; simp only [graph_Order.j0]; exact Ev.ifp trivial Ev.pure
  by_cases hp : up2 (pr S) = p
  · refine Ev.ifp (by simp [hp]) ?_
    by_cases h0 : r < 0
    · exact Ev.ifp h0 hj
    · refine Ev.ifn h0 ?_
      rw [decide_eq_true (by rw [up2_length]; omega)]; exact hj
  · exact Ev.ifn (by simp [hp]) hj
theorem order_no {s p : List (List Int)} (r : Int) (hm : Ev (fun k => graph_May.f k s p) false) : Ev (fun k => graph_Order.f k s p r) [] := by
  unfold graph_Order.f
  refine Ev.bind hm (Ev.ifn (by decide) ?_)
  refine Ev.succ ?_; simp only [graph_Order.j0]; exact Ev.ifp trivial Ev.pure

/-! #### each block but the first one has one ahead of it from which it is come to -/
mutual
theorem visit_par (S : List (List Nat)) : ∀ (f x : Nat) (st : Sn × List Nat), ∃ l, (visit S f x st).2 = st.2 ++ l ∧ ∀ l1 z l2, l = l1 ++ z :: l2 → z = x ∨ ∃ p ∈ l2, z ∈ S.getD p []
  | 0, x, st => ⟨[], by simp [visit], fun l1 z l2 e => by simp at e⟩
  | f + 1, x, st => by
    obtain ⟨l, h1, h2⟩ := steps_par S f (S.getD x []) (upd st.1 x, st.2)
    refine ⟨l ++ [x], by rw [visit_succ]; show (steps S f (S.getD x []) (upd st.1 x, st.2)).2 ++ [x] = _; rw [h1, List.append_assoc], fun l1 z l2 e => ?_⟩
    rcases List.append_eq_append_iff.mp e with ⟨m, hm1, hm2⟩ | ⟨m, hm1, hm2⟩
    · cases m with
      | nil => simp at hm2; exact .inl hm2.1.symm
      | cons b m =>
        have := congrArg List.length hm2
        simp only [List.length_append, List.length_cons, List.length_nil] at this; omega
    · cases m with
      | nil => simp at hm2; exact .inl hm2.1
      | cons b m =>
        injection hm2 with e1 e2
        subst e1
        right
        rcases h2 l1 z m hm1 with e3 | ⟨p, hp, e3⟩
        · exact ⟨x, by rw [e2]; simp, e3⟩
        · exact ⟨p, by rw [e2]; exact List.mem_append_left _ hp, e3⟩
theorem steps_par (S : List (List Nat)) : ∀ (f : Nat) (ys : List Nat) (st : Sn × List Nat), ∃ l, (steps S f ys st).2 = st.2 ++ l ∧ ∀ l1 z l2, l = l1 ++ z :: l2 → z ∈ ys ∨ ∃ p ∈ l2, z ∈ S.getD p []
  | f, [], st => ⟨[], by simp [steps], fun l1 z l2 e => by simp at e⟩
  | f, y :: ys, st => by
    rw [steps_cons]
    by_cases hy : st.1 y = true
    · rw [if_pos hy]
      obtain ⟨l, h1, h2⟩ := steps_par S f ys st
      refine ⟨l, h1, fun l1 z l2 e => ?_⟩
      rcases h2 l1 z l2 e with e | e
      · exact .inl (List.mem_cons_of_mem _ e)
      · exact .inr e
    · rw [if_neg hy]
      obtain ⟨la, a1, a2⟩ := visit_par S f y st
      obtain ⟨lb, b1, b2⟩ := steps_par S f ys (visit S f y st)
      refine ⟨la ++ lb, by rw [b1, a1, List.append_assoc], fun l1 z l2 e => ?_⟩
      rcases List.append_eq_append_iff.mp e with ⟨m, hm1, hm2⟩ | ⟨m, hm1, hm2⟩
      · rcases b2 m z l2 hm2 with e | e
        · exact .inl (List.mem_cons_of_mem _ e)
        · exact .inr e
      · cases m with
        | nil =>
          rcases b2 [] z l2 hm2.symm with e | e
          · exact .inl (List.mem_cons_of_mem _ e)
          · exact .inr e
        | cons b m =>
          injection hm2 with e1 e2
          subst e1
          rcases a2 l1 z m hm1 with e3 | ⟨p, hp, e3⟩
          · exact .inl (e3 ▸ List.mem_cons_self ..)
          · exact .inr ⟨p, by rw [e2]; exact List.mem_append_left _ hp, e3⟩
end
theorem dfs_par {S : List (List Nat)} {r : Nat} {l1 l2 : List Nat} {z : Nat} (e : dfs S r = l1 ++ z :: l2) (hz : z ≠ r) : ∃ p ∈ l1, z ∈ S.getD p [] := by
  obtain ⟨l, h1, h2⟩ := visit_par S S.length r (none', [])
  have e2 : l = l2.reverse ++ z :: l1.reverse := by
    have e3 := congrArg List.reverse e
    rw [dfs, List.reverse_reverse, h1] at e3
    simpa using e3
  rcases h2 _ _ _ e2 with e3 | ⟨p, hp, e3⟩
  · exact absurd e3 hz
  · exact ⟨p, List.mem_reverse.mp hp, e3⟩
theorem nodup_inj : ∀ {l : List Nat}, l.Nodup → ∀ {i j : Nat} (hi : i < l.length) (hj : j < l.length), l[i] = l[j] → i = j := by
  intro l
  induction l with
  | nil => intro _ i j hi; simp at hi
  | cons x l ih =>
    intro hn i j hi hj e
    obtain ⟨h1, h2⟩ := List.nodup_cons.mp hn
    cases i with
    | zero => cases j with
      | zero => rfl
      | succ j => exact absurd (by simp at e; rw [e]; exact List.getElem_mem _) h1
    | succ i => cases j with
      | zero => exact absurd (by simp at e; rw [← e]; exact List.getElem_mem _) h1
      | succ j =>
        have := ih h2 (i := i) (j := j) (by simpa using hi) (by simpa using hj) (by simpa using e)
        omega
/-- Places by the order. -/
def Places (o : List Nat) (at_ : Nat → Nat) : Prop := ∀ j, j < o.length → at_ (o.getD j 0) = j
theorem mem_at {o : List Nat} {x : Nat} (h : x ∈ o) : ∃ i, i < o.length ∧ o.getD i 0 = x := by
  obtain ⟨i, hi, e⟩ := List.getElem_of_mem h
  exact ⟨i, hi, by rw [List.getD_eq_getElem?_getD, List.getElem?_eq_getElem hi]; exact e⟩
theorem dfs_pl {S : List (List Nat)} (h : Gr S) {r : Nat} (hr : r < S.length) {at_ : Nat → Nat} (ha : Places (dfs S r) at_) : ∃ par, Pl S r at_ par := by
  have key : ∀ x, Rch S (-1) r x → x ≠ r → ∃ p, Rch S (-1) r p ∧ x ∈ S.getD p [] ∧ at_ p < at_ x := by
    intro x hx hxr
    obtain ⟨i, hi, e⟩ := mem_at ((dfs_mem h hr x).mpr hx)
    have e2 : dfs S r = (dfs S r).take i ++ x :: (dfs S r).drop (i + 1) := by
      have e1 := drop_getD (dfs S r) i 0 hi
      rw [e] at e1
      rw [← e1, List.take_append_drop]
    obtain ⟨p, hp, hpx⟩ := dfs_par e2 hxr
    have hp2 := List.mem_of_mem_take hp
    refine ⟨p, (dfs_mem h hr p).mp hp2, hpx, ?_⟩
    obtain ⟨j, hj, e3⟩ := List.getElem_of_mem hp
    have hj' : j < i := by simp at hj; omega
    have e4 : (dfs S r).getD j 0 = p := by
      rw [List.getD_eq_getElem?_getD, List.getElem?_eq_getElem (by omega)]
      rw [List.getElem_take] at e3; exact e3
    rw [← e4, ha j (by omega), ← e, ha i hi]; exact hj'
  have := fun x => Classical.propDecidable (Rch S (-1) r x ∧ x ≠ r)
  refine ⟨fun x => if hx : Rch S (-1) r x ∧ x ≠ r then (key x hx.1 hx.2).choose else 0, ?_, ?_⟩
  · intro x y hx hy e
    obtain ⟨i, hi, e1⟩ := mem_at ((dfs_mem h hr x).mpr hx)
    obtain ⟨j, hj, e2⟩ := mem_at ((dfs_mem h hr y).mpr hy)
    rw [← e1, ← e2, ha i hi, ha j hj] at e
    rw [← e1, ← e2, e]
  · intro x hx hxr
    simp only [dif_pos (show Rch S (-1) r x ∧ x ≠ r from ⟨hx, hxr⟩)]
    exact (key x hx hxr).choose_spec

/-! #### lists of entries -/
def tv (T : Tr) (x : Nat) : Int := match T x with | none => -2 | some y => (y : Int)
def tl (n : Nat) (T : Tr) : List Int := (List.range n).map (tv T)
def li (n : Nat) (f : Nat → Nat) : List Int := (List.range n).map (fun x => ((f x : Nat) : Int))
@[simp] theorem tl_length (n : Nat) (T : Tr) : (tl n T).length = n := by simp [tl]
@[simp] theorem li_length (n : Nat) (f : Nat → Nat) : (li n f).length = n := by simp [li]
theorem rd_tl {n : Nat} (T : Tr) {x : Nat} (h : x < n) : rd (tl n T) (x : Int) = tv T x := by
  simp only [rd, Int.toNat_natCast, tl]; exact getD_map_range _ _ _ _ h
theorem rd_li {n : Nat} (f : Nat → Nat) {x : Nat} (h : x < n) : rd (li n f) (x : Int) = ((f x : Nat) : Int) := by
  simp only [rd, Int.toNat_natCast, li]; exact getD_map_range _ _ _ _ h
theorem set_tl (n : Nat) (T : Tr) (x y : Nat) : (tl n T).set x (y : Int) = tl n (put T x y) :=
  set_map_range _ _ _ _ _ (by simp [tv, put]) (fun j hj => by simp [tv, put, hj])
def updn' (f : Nat → Nat) (x v : Nat) : Nat → Nat := fun y => if y = x then v else f y
theorem set_li (n : Nat) (f : Nat → Nat) (x v : Nat) : (li n f).set x (v : Int) = li n (updn' f x v) :=
  set_map_range _ _ _ _ _ (by simp [updn']) (fun j hj => by simp [updn', hj])
theorem tv_some {T : Tr} {x y : Nat} (h : T x = some y) : tv T x = (y : Int) := by simp [tv, h]
theorem tv_none {T : Tr} {x : Nat} (h : T x = none) : tv T x = -2 := by simp [tv, h]

/-! #### where two ways up meet -/
def Lca (T : Tr) (r a b m : Nat) : Prop := An T r m a ∧ An T r m b ∧ ∀ c, An T r c a → An T r c b → An T r c m
section
variable {S : List (List Nat)} {r n : Nat} {at_ par : Nat → Nat} {T : Tr}
theorem lca_left (hI : Inv S r at_ par T) {a a' b m : Nat} (ha : T a = some a') (hr : a ≠ r) (hlt : at_ b < at_ a) (h : Lca T r a' b m) : Lca T r a b m := by
  refine ⟨.up ha hr h.1, h.2.1, fun c h1 h2 => ?_⟩
  cases h1 with
  | refl _ => have := h2.le hI; omega
  | up h3 _ h4 => rw [ha] at h3; cases h3; exact h.2.2 c h4 h2
theorem lca_right (hI : Inv S r at_ par T) {a b b' m : Nat} (hb : T b = some b') (hr : b ≠ r) (hlt : at_ a < at_ b) (h : Lca T r a b' m) : Lca T r a b m := by
  refine ⟨h.1, .up hb hr h.2.1, fun c h1 h2 => ?_⟩
  cases h2 with
  | refl _ => have := h1.le hI; omega
  | up h3 _ h4 => rw [hb] at h3; cases h3; exact h.2.2 c h1 h4
theorem meet_all (hG : Gr S) (hr : r < S.length) (hP : Pl S r at_ par) (h0 : at_ r = 0) (hI : Inv S r at_ par T) : ∀ (N a b a' b' : Nat), at_ a + at_ b ≤ N → T a = some a' → T b = some b' →
    (∃ m : Nat, Ev (fun k => dom_meet.l0 k (tl S.length T) (li S.length at_) (a : Int) (b : Int)) (m : Int) ∧ Lca T r a b m) ∧
    (∃ m : Nat, Ev (fun k => dom_meet.l1 k (tl S.length T) (li S.length at_) (a : Int) (b : Int)) (m : Int) ∧ Lca T r a b m) ∧
    (∃ m : Nat, Ev (fun k => dom_meet.l2 k (tl S.length T) (li S.length at_) (a : Int) (b : Int)) (m : Int) ∧ Lca T r a b m) := by
  intro N
  induction N with
  | zero =>
    intro a b a' b' hN ha hb
    have e : a = b := hP.inj a b (hI.rch _ _ ha) (hI.rch _ _ hb) (by omega)
    subst e
    have hal := (hI.rch _ _ ha).lt hG hr
    have hl : Lca T r a a a := ⟨.refl ha, .refl ha, fun c h _ => h⟩
    have l0 : Ev (fun k => dom_meet.l0 k (tl S.length T) (li S.length at_) (a : Int) (a : Int)) (a : Int) := by
      refine Ev.succ ?_; simp only [dom_meet.l0]; exact Ev.ifp trivial Ev.pure
    have l2 : Ev (fun k => dom_meet.l2 k (tl S.length T) (li S.length at_) (a : Int) (a : Int)) (a : Int) := by
      refine Ev.succ ?_; simp only [dom_meet.l2]
      exact Ev.ifp (by omega) (Ev.ifp (by rw [li_length]; omega) (Ev.ifp (by omega) (Ev.ifp (by rw [li_length]; omega) (Ev.ifn (by omega) l0))))
    have l1 : Ev (fun k => dom_meet.l1 k (tl S.length T) (li S.length at_) (a : Int) (a : Int)) (a : Int) := by
      refine Ev.succ ?_; simp only [dom_meet.l1]
      exact Ev.ifp (by omega) (Ev.ifp (by rw [li_length]; omega) (Ev.ifp (by omega) (Ev.ifp (by rw [li_length]; omega) (Ev.ifn (by omega) l2))))
    exact ⟨⟨a, l0, hl⟩, ⟨a, l1, hl⟩, ⟨a, l2, hl⟩⟩
  | succ N ih =>
    intro a b a' b' hN ha hb
    have hal := (hI.rch _ _ ha).lt hG hr
    have hbl := (hI.rch _ _ hb).lt hG hr
    have pass1 : ∀ {v : Int}, at_ a ≤ at_ b → Ev (fun k => dom_meet.l2 k (tl S.length T) (li S.length at_) (a : Int) (b : Int)) v → Ev (fun k => dom_meet.l1 k (tl S.length T) (li S.length at_) (a : Int) (b : Int)) v := by
      intro v hle h
      refine Ev.succ ?_; simp only [dom_meet.l1]
      exact Ev.ifp (by omega) (Ev.ifp (by rw [li_length]; omega) (Ev.ifp (by omega) (Ev.ifp (by rw [li_length]; omega) (Ev.ifn (by rw [rd_li _ hal, rd_li _ hbl]; omega) h))))
    have pass2 : ∀ {v : Int}, at_ b ≤ at_ a → Ev (fun k => dom_meet.l0 k (tl S.length T) (li S.length at_) (a : Int) (b : Int)) v → Ev (fun k => dom_meet.l2 k (tl S.length T) (li S.length at_) (a : Int) (b : Int)) v := by
      intro v hle h
      refine Ev.succ ?_; simp only [dom_meet.l2]
      exact Ev.ifp (by omega) (Ev.ifp (by rw [li_length]; omega) (Ev.ifp (by omega) (Ev.ifp (by rw [li_length]; omega) (Ev.ifn (by rw [rd_li _ hal, rd_li _ hbl]; omega) h))))
    have pass0 : ∀ {v : Int}, a ≠ b → Ev (fun k => dom_meet.l1 k (tl S.length T) (li S.length at_) (a : Int) (b : Int)) v → Ev (fun k => dom_meet.l0 k (tl S.length T) (li S.length at_) (a : Int) (b : Int)) v := by
      intro v hne h
      refine Ev.succ ?_; simp only [dom_meet.l0]
      exact Ev.ifn (by omega) h
    rcases Nat.lt_trichotomy (at_ a) (at_ b) with hlt | heq | hgt
    · have hbr : b ≠ r := by rintro rfl; omega
      obtain ⟨h1, z, h2⟩ := hI.lt b b' hb hbr
      have hb'l := (hI.rch _ _ h2).lt hG hr
      obtain ⟨_, _, m, h3, h4⟩ := ih a b' a' z (by omega) ha h2
      have h5 := lca_right hI hb hbr hlt h4
      have l2 : Ev (fun k => dom_meet.l2 k (tl S.length T) (li S.length at_) (a : Int) (b : Int)) (m : Int) := by
        refine Ev.succ ?_; simp only [dom_meet.l2]
        refine Ev.ifp (by omega) (Ev.ifp (by rw [li_length]; omega) (Ev.ifp (by omega) (Ev.ifp (by rw [li_length]; omega) (Ev.ifp (by rw [rd_li _ hal, rd_li _ hbl]; omega) (Ev.ifp (by rw [tl_length]; omega) ?_)))))
        rw [rd_tl _ hbl, tv_some hb]; exact h3
      have l1 := pass1 (by omega) l2
      exact ⟨⟨m, pass0 (by rintro rfl; omega) l1, h5⟩, ⟨m, l1, h5⟩, ⟨m, l2, h5⟩⟩
    · have e : a = b := hP.inj a b (hI.rch _ _ ha) (hI.rch _ _ hb) heq
      subst e
      have hl : Lca T r a a a := ⟨.refl ha, .refl ha, fun c h _ => h⟩
      have l0 : Ev (fun k => dom_meet.l0 k (tl S.length T) (li S.length at_) (a : Int) (a : Int)) (a : Int) := by
        refine Ev.succ ?_; simp only [dom_meet.l0]; exact Ev.ifp trivial Ev.pure
      have l2 := pass2 (by omega) l0
      exact ⟨⟨a, l0, hl⟩, ⟨a, pass1 (by omega) l2, hl⟩, ⟨a, l2, hl⟩⟩
    · have har : a ≠ r := by rintro rfl; omega
      obtain ⟨h1, z, h2⟩ := hI.lt a a' ha har
      obtain ⟨_, ⟨m, h3, h4⟩, _⟩ := ih a' b z b' (by omega) h2 hb
      have h5 := lca_left hI ha har hgt h4
      have l1 : Ev (fun k => dom_meet.l1 k (tl S.length T) (li S.length at_) (a : Int) (b : Int)) (m : Int) := by
        refine Ev.succ ?_; simp only [dom_meet.l1]
        refine Ev.ifp (by omega) (Ev.ifp (by rw [li_length]; omega) (Ev.ifp (by omega) (Ev.ifp (by rw [li_length]; omega) (Ev.ifp (by rw [rd_li _ hal, rd_li _ hbl]; omega) (Ev.ifp (by rw [tl_length]; omega) ?_)))))
        rw [rd_tl _ hal, tv_some ha]; exact h3
      have l0 := pass0 (by rintro rfl; omega) l1
      exact ⟨⟨m, l0, h5⟩, ⟨m, l1, h5⟩, ⟨m, pass2 (by omega) l0, h5⟩⟩
theorem meet3 (hG : Gr S) (hr : r < S.length) (hP : Pl S r at_ par) (h0 : at_ r = 0) (hI : Inv S r at_ par T) {a b a' b' : Nat} (ha : T a = some a') (hb : T b = some b') :
    ∃ m : Nat, Ev (fun k => dom_meet.f k (tl S.length T) (li S.length at_) (a : Int) (b : Int)) (m : Int) ∧ Lca T r a b m := by
  unfold dom_meet.f
  exact (meet_all hG hr hP h0 hI _ a b a' b' (Nat.le_refl _) ha hb).1

/-! #### the best one of those from which one comes -/
/-- What is best of some blocks from which one comes: nothing, or the nearest one over all that there is of them. -/
def BestOf (T : Tr) (r : Nat) (ps : List Nat) (best : Int) : Prop :=
  ((∀ p ∈ ps, T p = none) ∧ best = -2) ∨ ∃ b : Nat, best = (b : Int) ∧ (∃ z, T b = some z) ∧ (∀ p ∈ ps, ∀ z, T p = some z → An T r b p) ∧ ∀ c, (∀ p ∈ ps, ∀ z, T p = some z → An T r c p) → An T r c b
theorem bestOf_nil : BestOf T r [] (-2) := .inl ⟨by simp, rfl⟩
theorem tree_l3 (hG : Gr S) (hr : r < S.length) (hP : Pl S r at_ par) (h0 : at_ r = 0) (hI : Inv S r at_ par T) {x : Nat} (hx : x < S.length) (o y : List Int) (i : Int) (v : List Int)
    (d : Nat) : ∀ (j : Nat) (best : Int), ((pr S).getD x []).length - j = d → j ≤ ((pr S).getD x []).length → BestOf T r (((pr S).getD x []).take j) best →
    (∀ best', BestOf T r ((pr S).getD x []) best' → Ev (fun k => if tv T x = best' then dom_Tree.l2 k (r : Int) o (tl S.length T) (li S.length at_) y (y.length : Int) (wrap64 (i + 1)) (up2 S) (up2 (pr S)) else dom_Tree.l1 k (r : Int) o ((tl S.length T).set x best') (li S.length at_) (up2 S) (up2 (pr S))) v) →
    Ev (fun k => dom_Tree.l3 k (r : Int) o (tl S.length T) (li S.length at_) (x : Int) best y (y.length : Int) i (up ((pr S).getD x [])) ((up ((pr S).getD x [])).length : Int) (j : Int) (up2 S) (up2 (pr S))) v := by
  have hlen : ((pr S).getD x []).length ≤ 64 := gr_len (gr_pr hG) (by rw [pr_length]; exact hx)
  induction d with
  | zero =>
    intro j best hd hj hB hK
    refine Ev.succ ?_; simp only [dom_Tree.l3]
    refine Ev.ifn (by rw [up_length]; omega) (Ev.ifp (by omega) (Ev.ifp (by rw [tl_length]; omega) ?_))
    rw [rd_tl _ hx, Int.toNat_natCast]
    rw [List.take_of_length_le (by omega)] at hB
    exact hK best hB
  | succ d ih =>
    intro j best hd hj hB hK
    have hj1 : j < ((pr S).getD x []).length := by omega
    have hmem : ((pr S).getD x []).getD j 0 ∈ (pr S).getD x [] := getD_mem hj1
    have hp := (mem_pr hx).mp hmem
    have htk := take_getD ((pr S).getD x []) j 0 hj1
    refine Ev.succ ?_; simp only [dom_Tree.l3]
    rw [rd_up]
    generalize ((pr S).getD x []).getD j 0 = p at hmem hp htk
    have hstep : ∀ best', BestOf T r (((pr S).getD x []).take (j + 1)) best' → Ev (fun k => dom_Tree.l3 k (r : Int) o (tl S.length T) (li S.length at_) (x : Int) best' y (y.length : Int) i (up ((pr S).getD x [])) ((up ((pr S).getD x [])).length : Int) (wrap64 ((j : Int) + 1)) (up2 S) (up2 (pr S))) v := by
      intro best' hB'
      rw [wrap_nat (by omega)]
      exact ih (j + 1) best' (by omega) (by omega) hB' hK
    refine Ev.ifp (by rw [up_length]; omega) (Ev.ifp (by omega) (Ev.ifp (by rw [up_length]; omega) (Ev.ifp (by omega) (Ev.ifp (by rw [tl_length]; omega) ?_))))
    rw [rd_tl _ hp.1]
    cases hT : T p with
    | none =>
      refine Ev.ifp (tv_none hT) (hstep best ?_)
      rw [htk]
      rcases hB with ⟨h1, h2⟩ | ⟨b, h1, h2, h3, h4⟩
      · refine .inl ⟨fun q hq => ?_, h2⟩
        rcases List.mem_append.mp hq with e | e
        · exact h1 q e
        · rw [List.mem_singleton.mp e]; exact hT
      · refine .inr ⟨b, h1, h2, fun q hq z hz => ?_, fun c hc => h4 c (fun q hq => hc q (List.mem_append_left _ hq))⟩
        rcases List.mem_append.mp hq with e | e
        · exact h3 q e z hz
        · rw [List.mem_singleton.mp e, hT] at hz; cases hz
    | some p' =>
      refine Ev.ifn (by rw [tv_some hT]; omega) ?_
      rcases hB with ⟨h1, h2⟩ | ⟨b, h1, ⟨bz, h2⟩, h3, h4⟩
      · refine Ev.ifp h2 (hstep (p : Int) ?_)
        rw [htk]
        refine .inr ⟨p, rfl, ⟨p', hT⟩, fun q hq z hz => ?_, fun c hc => hc p (by simp) p' hT⟩
        rcases List.mem_append.mp hq with e | e
        · rw [h1 q e] at hz; cases hz
        · rw [List.mem_singleton.mp e]; exact .refl hT
      · refine Ev.ifn (by omega) ?_
        obtain ⟨m, g1, g2, g3, g4⟩ := meet3 hG hr hP h0 hI h2 hT
        rw [h1]
        refine Ev.bind g1 (hstep (m : Int) ?_)
        rw [htk]
        refine .inr ⟨m, rfl, g2.top, fun q hq z hz => ?_, fun c hc => g4 c (h4 c (fun q hq => hc q (List.mem_append_left _ hq))) (hc p (by simp) p' hT)⟩
        rcases List.mem_append.mp hq with e | e
        · exact g2.trans (h3 q e z hz)
        · rw [List.mem_singleton.mp e]; exact g3

/-! #### the whole -/
def wt (n : Nat) (at_ : Nat → Nat) (T : Tr) : Nat := ((List.range n).map (fun x => match T x with | none => n | some y => at_ y)).sum
theorem sum_le {l : List Nat} {f g : Nat → Nat} (h : ∀ x ∈ l, f x ≤ g x) : (l.map f).sum ≤ (l.map g).sum := by
  induction l with
  | nil => simp
  | cons x l ih =>
    have h1 := ih (fun y hy => h y (List.mem_cons_of_mem _ hy))
    have h2 := h x (List.mem_cons_self ..)
    simp only [List.map_cons, List.sum_cons]; omega
theorem sum_lt {l : List Nat} {f g : Nat → Nat} (h : ∀ x ∈ l, f x ≤ g x) {z : Nat} (hz : z ∈ l) (hl : f z < g z) : (l.map f).sum < (l.map g).sum := by
  induction l with
  | nil => cases hz
  | cons x l ih =>
    have h1 := sum_le (fun y hy => h y (List.mem_cons_of_mem x hy))
    have h2 := h x (List.mem_cons_self ..)
    simp only [List.map_cons, List.sum_cons]
    rcases List.mem_cons.mp hz with e | e
    · subst e; omega
    · have := ih (fun y hy => h y (List.mem_cons_of_mem _ hy)) e; omega
open Classical in
/-- A block's entry: the nearest of those that dominate it; -1: the root; -2: it isn't reached. -/
noncomputable def idv (S : List (List Nat)) (r x : Nat) : Int := if x = r then -1 else if h : ∃ z, Idm S r z x then (h.choose : Int) else -2
noncomputable def dtl (S : List (List Nat)) (r : Nat) : List Int := (List.range S.length).map (idv S r)
theorem idv_root : idv S r r = -1 := by simp [idv]
theorem idv_idm (hP : Pl S r at_ par) {x z : Nat} (hx : x ≠ r) (h : Idm S r z x) : idv S r x = (z : Int) := by
  have hex : ∃ z, Idm S r z x := ⟨z, h⟩
  unfold idv
  rw [if_neg hx, dif_pos hex, idm_unique hP hex.choose_spec h]
theorem idv_no {x : Nat} (hr : r < S.length) (hx : ¬ Rch S (-1) r x) : idv S r x = -2 := by
  unfold idv
  rw [if_neg (fun e => hx (by subst e; exact .base (by omega))), dif_neg (fun h => by obtain ⟨z, hz⟩ := h; exact hx hz.1.1)]
theorem tree_end (hP : Pl S r at_ par) (hr : r < S.length) (hI : Inv S r at_ par T) (hF : ∀ y, Rch S (-1) r y → y ≠ r → Fx S r T y) : (tl S.length T).set r (-1) = dtl S r := by
  refine set_map_range _ _ _ _ _ idv_root (fun j hj => ?_)
  by_cases hR : Rch S (-1) r j
  · obtain ⟨z, hz, _⟩ := hF j hR hj
    rw [tv_some hz]
    exact idv_idm hP hj (fix_idm hI hF j z hz hj)
  · rw [idv_no hr hR]
    cases hT : T j with
    | none => exact (tv_none hT).symm
    | some y => exact absurd (hI.rch _ _ hT) hR
theorem tree_go (hG : Gr S) (hr : r < S.length) (ha : Places (dfs S r) at_) (hP : Pl S r at_ par) (hI : Inv S r at_ par T)
    (hgo : ∀ T', Inv S r at_ par T' → wt S.length at_ T' < wt S.length at_ T → Ev (fun k => dom_Tree.l1 k (r : Int) (up (dfs S r)) (tl S.length T') (li S.length at_) (up2 S) (up2 (pr S))) (dtl S r)) :
    Ev (fun k => dom_Tree.l1 k (r : Int) (up (dfs S r)) (tl S.length T) (li S.length at_) (up2 S) (up2 (pr S))) (dtl S r) := by
  obtain ⟨tail, htail⟩ := dfs_head hG r
  have hle := hG.le
  have hdl := dfs_len hG hr
  have h0 : at_ r = 0 := by have := ha 0 (by rw [htail]; simp); rw [htail] at this; simpa using this
  have htl : tail.length + 1 = (dfs S r).length := by rw [htail]; simp
  have hget : ∀ i, (dfs S r).getD (i + 1) 0 = tail.getD i 0 := by intro i; rw [htail]; simp
  have hatn : ∀ y, Rch S (-1) r y → at_ y < S.length := by
    intro y hy
    obtain ⟨i, hi, e⟩ := mem_at ((dfs_mem hG hr y).mpr hy)
    rw [← e, ha i hi]; omega
  have l2 : ∀ (d i : Nat), tail.length - i = d → i ≤ tail.length → (∀ y, Rch S (-1) r y → at_ y ≤ i → y ≠ r → Fx S r T y) →
      Ev (fun k => dom_Tree.l2 k (r : Int) (up (dfs S r)) (tl S.length T) (li S.length at_) (up tail) ((up tail).length : Int) (i : Int) (up2 S) (up2 (pr S))) (dtl S r) := by
    intro d
    induction d with
    | zero =>
      intro i hd hi hF
      refine Ev.succ ?_; simp only [dom_Tree.l2]
      refine Ev.ifn (by rw [up_length]; omega) (Ev.ifp (by omega) (Ev.ifp (by rw [tl_length]; omega) (Ev.pure.of_eq ?_)))
      rw [Int.toNat_natCast]
      refine tree_end hP hr hI (fun y hy hyr => hF y hy ?_ hyr)
      obtain ⟨j, hj, e⟩ := mem_at ((dfs_mem hG hr y).mpr hy)
      rw [← e, ha j hj]; omega
    | succ d ih =>
      intro i hd hi hF
      have hi1 : i + 1 < (dfs S r).length := by omega
      have hmem : (dfs S r).getD (i + 1) 0 ∈ dfs S r := getD_mem hi1
      have hat := ha (i + 1) hi1
      rw [hget] at hmem hat
      have hxr : tail.getD i 0 ≠ r := by intro e; rw [e, h0] at hat; omega
      refine Ev.succ ?_; simp only [dom_Tree.l2]
      rw [rd_up]
      generalize tail.getD i 0 = x at hmem hat hxr
      have hxl := dfs_lt hG hr x hmem
      have hxR := (dfs_mem hG hr x).mp hmem
      have hF' : ∀ y, Rch S (-1) r y → at_ y < at_ x → y ≠ r → Fx S r T y := fun y hy hlt hyr => hF y hy (by omega) hyr
      refine Ev.ifp (by rw [up_length]; omega) (Ev.ifp (by omega) (Ev.ifp (by rw [up_length]; omega) (Ev.ifp (by omega) (Ev.ifp (by rw [up2_length, pr_length]; omega) ?_))))
      rw [rdL_up]
      refine tree_l3 hG hr hP h0 hI hxl (up (dfs S r)) (up tail) (i : Int) (dtl S r) _ 0 (-2) rfl (by omega) (by rw [List.take_zero]; exact bestOf_nil) (fun best hB => ?_)
      obtain ⟨pR, pS, pA⟩ := hP.par x hxR hxr
      have hpl := pR.lt hG hr
      obtain ⟨pz, hpz⟩ : ∃ z, T (par x) = some z := by
        by_cases e : par x = r
        · rw [e]; exact ⟨_, hI.root⟩
        · obtain ⟨z, hz, _⟩ := hF' _ pR pA e; exact ⟨z, hz⟩
      have hpm : par x ∈ (pr S).getD x [] := (mem_pr hxl).mpr ⟨hpl, pS⟩
      rcases hB with ⟨h1, _⟩ | ⟨b, h1, ⟨bz, h2⟩, h3, h4⟩
      · have := h1 _ hpm; rw [hpz] at this; cases this
      · have hall : ∀ p z, x ∈ S.getD p [] → T p = some z → p ∈ (pr S).getD x [] := fun p z hp hz => (mem_pr hxl).mpr ⟨(hI.rch _ _ hz).lt hG hr, hp⟩
        have hBest : Best S r T x b := ⟨fun p y hp hy => h3 p (hall p y hp hy) y hy, fun c hc => h4 c (fun p hp z hz => hc p z ((mem_pr hxl).mp hp).2 hz)⟩
        subst h1
        by_cases e : tv T x = (b : Int)
        · refine Ev.ifp e ?_
          rw [wrap_nat (by omega)]
          refine ih (i + 1) (by omega) (by omega) (fun y hy hyi hyr => ?_)
          by_cases e2 : at_ y ≤ i
          · exact hF y hy e2 hyr
          · have e3 : y = x := hP.inj y x hy hxR (by omega)
            subst e3
            refine ⟨b, ?_, hBest.1⟩
            cases hT : T y with
            | none => rw [tv_none hT] at e; omega
            | some q => rw [tv_some hT] at e; rw [Int.ofNat_inj.mp e]
        · refine Ev.ifn e ?_
          rw [set_tl]
          obtain ⟨g1, g2⟩ := step_inv hP hI hxR hxr hF' hBest
          refine hgo _ g1 ?_
          have hbn := hatn b (hI.rch _ _ h2)
          have hlt : at_ b < (match T x with | none => S.length | some y => at_ y) := by
            cases hT : T x with
            | none => exact hbn
            | some q => exact g2 q hT (fun e4 => e (by rw [tv_some hT, e4]))
          refine sum_lt (fun y _ => ?_) (List.mem_range.mpr hxl) (by simp only [put_self]; exact hlt)
          by_cases e5 : y = x
          · subst e5; simp only [put_self]; exact Nat.le_of_lt hlt
          · rw [put_ne e5]; exact Nat.le_refl _
  refine Ev.succ ?_; simp only [dom_Tree.l1]
  refine Ev.ifp (by rw [up_length]; omega) ?_
  simp only [Option.bind_some]
  have e : (up (dfs S r)).drop 1 = up tail := by rw [htail]; simp [up]
  rw [e]
  refine l2 _ 0 rfl (by omega) (fun y hy hy0 hyr => ?_)
  exact absurd (hP.inj y r hy (.base (by omega)) (by omega)) hyr
theorem tree_l1 (hG : Gr S) (hr : r < S.length) (ha : Places (dfs S r) at_) (hP : Pl S r at_ par) : ∀ (M : Nat) (T : Tr), Inv S r at_ par T → wt S.length at_ T < M →
    Ev (fun k => dom_Tree.l1 k (r : Int) (up (dfs S r)) (tl S.length T) (li S.length at_) (up2 S) (up2 (pr S))) (dtl S r) := by
  intro M
  induction M with
  | zero => intro T _ h; omega
  | succ M ih => intro T hI hM; exact tree_go hG hr ha hP hI (fun T' hI' h => ih T' hI' (by omega))
theorem tree_l0 (hG : Gr S) (hr : r < S.length) (d : Nat) : ∀ (i : Nat) (f : Nat → Nat), (dfs S r).length - i = d → i ≤ (dfs S r).length → (∀ j, j < i → f ((dfs S r).getD j 0) = j) →
    Ev (fun k => dom_Tree.l0 k (r : Int) (up (dfs S r)) (List.replicate S.length (-2)) (li S.length f) (up (dfs S r)) ((up (dfs S r)).length : Int) (i : Int) (up2 S) (up2 (pr S))) (dtl S r) := by
  have hle := hG.le
  have hdl := dfs_len hG hr
  induction d with
  | zero =>
    intro i f hd hi hf
    have ha : Places (dfs S r) f := fun j hj => hf j (by omega)
    obtain ⟨par, hP⟩ := dfs_pl hG hr ha
    refine Ev.succ ?_; simp only [dom_Tree.l0]
    refine Ev.ifn (by rw [up_length]; omega) (Ev.ifp (by omega) (Ev.ifp (by simp; omega) ?_))
    have e : (List.replicate S.length (-2 : Int)).set ((r : Int)).toNat (r : Int) = tl S.length (put (fun _ => none) r r) := by
      have e1 : List.replicate S.length (-2 : Int) = tl S.length (fun _ => none) := by
        apply List.ext_getElem
        · simp
        · intro j h1 h2; simp [tl, tv]
      rw [e1, Int.toNat_natCast, set_tl]
    rw [e]
    have hI : Inv S r f par (put (fun _ => none) r r) := by
      have hn : ∀ {x y : Nat}, put (fun _ => none) r r x = some y → x = r := by
        intro x y h
        by_cases e : x = r
        · exact e
        · rw [put_ne e] at h; cases h
      exact ⟨put_self _ _ _, fun x y h => by rw [hn h]; exact .base (by omega), fun x y h hx => absurd (hn h) hx, fun x y h hx => absurd (hn h) hx, fun x y h hx => absurd (hn h) hx, fun x y h hx => absurd (hn h) hx⟩
    exact tree_l1 hG hr ha hP _ _ hI (Nat.lt_succ_self _)
  | succ d ih =>
    intro i f hd hi hf
    have hi1 : i < (dfs S r).length := by omega
    have hmem : (dfs S r).getD i 0 ∈ dfs S r := getD_mem hi1
    have hxl := dfs_lt hG hr _ hmem
    refine Ev.succ ?_; simp only [dom_Tree.l0]
    rw [rd_up]
    refine Ev.ifp (by rw [up_length]; omega) (Ev.ifp (by omega) (Ev.ifp (by rw [up_length]; omega) (Ev.ifp (by omega) (Ev.ifp (by rw [li_length]; omega) ?_))))
    rw [Int.toNat_natCast, set_li, wrap_nat (by omega)]
    refine ih (i + 1) _ (by omega) (by omega) (fun j hj => ?_)
    unfold updn'
    by_cases e : (dfs S r).getD j 0 = (dfs S r).getD i 0
    · rw [if_pos e]
      have hj1 : j < (dfs S r).length := by omega
      have hnd := dfs_nodup hG hr
      rw [List.getD_eq_getElem?_getD, List.getD_eq_getElem?_getD, List.getElem?_eq_getElem hj1, List.getElem?_eq_getElem hi1] at e
      exact (nodup_inj hnd hj1 hi1 e).symm
    · rw [if_neg e]
      exact hf j (by have : j ≠ i := fun e2 => e (by rw [e2]); omega)
theorem tree_ok (hG : Gr S) (hr : r < S.length) : Ev (fun k => dom_Tree.f k (up2 S) (up2 (pr S)) (r : Int)) (dtl S r) := by
  have hle := hG.le
  obtain ⟨tail, htail⟩ := dfs_head hG r
  unfold dom_Tree.f
  refine Ev.bind (order_ok hG hr) (Ev.ifn (by rw [up_length, htail]; simp; omega) ?_)
  have e1 : slices_Repeat_int_int.f ([(-2)] : List Int) ((up2 S).length : Int) = some (List.replicate S.length (-2)) := by
    unfold slices_Repeat_int_int.f
    rw [if_pos ⟨rfl, by rw [up2_length]; have := hG.pos; omega, by rw [up2_length]; omega⟩, up2_length, Int.toNat_natCast]; rfl
  rw [e1]
  simp only [Option.bind_some]
  refine Ev.ifp (by omega) (Ev.ifp (by rw [up2_length]; omega) ?_)
  have e2 : List.replicate ((up2 S).length : Int).toNat (0 : Int) = li S.length (fun _ => 0) := by
    rw [up2_length, Int.toNat_natCast]
    apply List.ext_getElem
    · simp
    · intro j h1 h2; simp [li]
  rw [e2]
  exact tree_l0 hG hr _ 0 _ rfl (by omega) (fun j hj => by omega)
theorem tree_no {s p : List (List Int)} {r : Int} (ho : Ev (fun k => graph_Order.f k s p r) []) : Ev (fun k => dom_Tree.f k s p r) [] := by
  unfold dom_Tree.f
  exact Ev.bind ho (Ev.ifp rfl Ev.pure)
end

@[simp] theorem dtl_length (S : List (List Nat)) (r : Nat) : (dtl S r).length = S.length := by simp [dtl]
theorem rd_dtl {S : List (List Nat)} {r x : Nat} (h : x < S.length) : rd (dtl S r) (x : Int) = idv S r x := by
  simp only [rd, Int.toNat_natCast, dtl]; exact getD_map_range _ _ _ _ h
/-- A graph, its root, and places by its order. -/
structure Gd (S : List (List Nat)) (r : Nat) (at_ par : Nat → Nat) : Prop where
  gr : Gr S
  lt : r < S.length
  pl : Pl S r at_ par
  at0 : at_ r = 0
  atn : ∀ x, Rch S (-1) r x → at_ x < S.length
  idm : ∀ x, Rch S (-1) r x → x ≠ r → ∃ z, Idm S r z x
theorem places_ex {S : List (List Nat)} (h : Gr S) {r : Nat} (hr : r < S.length) : ∃ at_, Places (dfs S r) at_ := by
  refine ⟨fun x => (dfs S r).findIdx (fun y => decide (y = x)), fun j hj => ?_⟩
  have hex : ∃ y ∈ dfs S r, decide (y = (dfs S r).getD j 0) = true := ⟨(dfs S r).getD j 0, getD_mem hj, by simp⟩
  have h1 := List.findIdx_lt_length_of_exists hex
  have h2 := List.findIdx_getElem (w := h1)
  have h3 : (dfs S r)[j] = (dfs S r).getD j 0 := by rw [List.getD_eq_getElem?_getD, List.getElem?_eq_getElem hj]; rfl
  refine nodup_inj (dfs_nodup h hr) h1 hj ?_
  rw [h3]; exact of_decide_eq_true h2
theorem dm_last {S : List (List Nat)} {r d e : Nat} (hde : d ≠ e) {x : Nat} (h : Rch S (-1) r x) : Rch S (d : Int) r x ∨ Rch S (e : Int) d x ∨ Rch S (d : Int) e x := by
  induction h with
  | base _ =>
    by_cases e1 : r = d
    · subst e1; exact .inr (.inl (.base (by omega)))
    · by_cases e2 : r = e
      · subst e2; exact .inr (.inr (.base (by omega)))
      · exact .inl (.base (by omega))
  | @step a y _ hy _ ih =>
    by_cases e1 : y = d
    · subst e1; exact .inr (.inl (.base (by omega)))
    · by_cases e2 : y = e
      · subst e2; exact .inr (.inr (.base (by omega)))
      · rcases ih with h | h | h
        · exact .inl (.step h hy (by omega))
        · exact .inr (.inl (.step h hy (by omega)))
        · exact .inr (.inr (.step h hy (by omega)))
/-- Of two that dominate one, one dominates the other one. -/
theorem dm_line {S : List (List Nat)} {r d e x : Nat} (hd : Dm S r d x) (he : Dm S r e x) : Dm S r d e ∨ Dm S r e d := by
  by_cases hde : d = e
  · subst hde; exact .inl (dm_refl (dm_rch hd))
  · rcases dm_last hde hd.1 with h | h | h
    · exact absurd h hd.2
    · exact .inr ⟨dm_rch hd, fun h' => he.2 (h'.trans h)⟩
    · exact .inl ⟨dm_rch he, fun h' => hd.2 (h'.trans h)⟩
/-- The nearest dominator is there. -/
theorem idm_ex {S : List (List Nat)} {r : Nat} {at_ par : Nat → Nat} (hP : Pl S r at_ par) {x : Nat} (hx : Rch S (-1) r x) (hxr : x ≠ r) : ∃ z, Idm S r z x := by
  have key : ∀ (n z : Nat), Dm S r z x → z ≠ x → at_ x - at_ z ≤ n → ∃ z', Dm S r z' x ∧ z' ≠ x ∧ ∀ d, Dm S r d x → d ≠ x → at_ d ≤ at_ z' := by
    intro n
    induction n with
    | zero =>
      intro z hz hne hn
      have h1 := dm_le hP _ _ (Nat.le_refl _) hz
      exact absurd (hP.inj z x (dm_rch hz) hx (by omega)) hne
    | succ n ih =>
      intro z hz hne hn
      by_cases hex : ∃ d, Dm S r d x ∧ d ≠ x ∧ at_ z < at_ d
      · obtain ⟨d, h1, h2, h3⟩ := hex
        exact ih d h1 h2 (by have := dm_le hP _ _ (Nat.le_refl _) h1; omega)
      · exact ⟨z, hz, hne, fun d h1 h2 => Nat.le_of_not_lt (fun h3 => hex ⟨d, h1, h2, h3⟩)⟩
  obtain ⟨z, h1, h2, h3⟩ := key _ r (dm_root hx) (fun e => hxr e.symm) (Nat.le_refl _)
  refine ⟨z, h1, h2, fun d hd hdx => ?_⟩
  rcases dm_line hd h1 with h | h
  · exact h
  · have h4 := dm_le hP _ _ (Nat.le_refl _) h
    have h5 := h3 d hd hdx
    rw [hP.inj d z (dm_rch hd) (dm_rch h1) (by omega)]; exact dm_refl (dm_rch h1)
theorem gd_of {S : List (List Nat)} {r : Nat} (hG : Gr S) (hr : r < S.length) {at_ : Nat → Nat} (ha : Places (dfs S r) at_) : ∃ par, Gd S r at_ par := by
  obtain ⟨par, hP⟩ := dfs_pl hG hr ha
  refine ⟨par, hG, hr, hP, ?_, ?_, ?_⟩
  · obtain ⟨tail, htail⟩ := dfs_head hG r; have := ha 0 (by rw [htail]; simp); rw [htail] at this; simpa using this
  · intro y hy
    obtain ⟨i, hi, e⟩ := mem_at ((dfs_mem hG hr y).mpr hy)
    rw [← e, ha i hi]; have := dfs_len hG hr; omega
  · exact fun x hx hxr => idm_ex hP hx hxr
theorem gd_ex {S : List (List Nat)} {r : Nat} (hG : Gr S) (hr : r < S.length) : ∃ at_ par, Gd S r at_ par := by
  obtain ⟨at_, ha⟩ := places_ex hG hr
  exact ⟨at_, gd_of hG hr ha⟩


/-- No block that is reached reaches itself. -/
def Ac (S : List (List Nat)) (r : Nat) : Prop := ∀ a, Rch S (-1) r a → ∀ y ∈ S.getD a [], ¬ Rch S (-1) y a
mutual
theorem visit_ac {S : List (List Nat)} (h : Gr S) {r : Nat} (ac : Ac S r) : ∀ (f x : Nat) (st : Sn × List Nat), x < S.length → Rch S (-1) r x → st.1 x = false → cnt S.length st.1 ≤ f → Ord S st.2 → (∀ z, st.1 z = true → z ∈ st.2 ∨ Rch S (-1) z x) → Ord S (visit S f x st).2
  | 0, x, st, hx, _, hs, hc, _, _ => by have := cnt_pos hx hs; omega
  | f + 1, x, st, hx, hr, hs, hc, ho, hlt => by
    have hu := cnt_upd hx hs
    have hcu : cnt S.length (upd st.1 x) ≤ f := by omega
    rw [visit_succ]
    obtain ⟨h1, h2⟩ := steps_ac h ac f x (S.getD x []) (upd st.1 x, st.2) hr (fun y hm => ⟨(h.row x hx).2 y hm, hm⟩) hcu ho (fun z hz => by
      rcases upd_true.mp hz with e | e
      · subst e; exact .inr (.base (by omega))
      · exact hlt z e)
    refine ord_snoc h1 (fun y hm => ?_)
    rcases h2 y (steps_seen h f _ _ (h.row x hx).2 hcu y hm) with e | e
    · exact e
    · exact absurd e (ac x hr y hm)
theorem steps_ac {S : List (List Nat)} (h : Gr S) {r : Nat} (ac : Ac S r) : ∀ (f x : Nat) (l : List Nat) (st : Sn × List Nat), Rch S (-1) r x → (∀ y ∈ l, y < S.length ∧ y ∈ S.getD x []) → cnt S.length st.1 ≤ f → Ord S st.2 → (∀ z, st.1 z = true → z ∈ st.2 ∨ Rch S (-1) z x) →
    Ord S (steps S f l st).2 ∧ ∀ z, (steps S f l st).1 z = true → z ∈ (steps S f l st).2 ∨ Rch S (-1) z x
  | _, _, [], _, _, _, _, ho, hlt => ⟨ho, hlt⟩
  | f, x, y :: l, st, hr, hl, hc, ho, hlt => by
    rw [steps_cons]
    have hl' : ∀ y ∈ l, y < S.length ∧ y ∈ S.getD x [] := fun z hz => hl z (List.mem_cons_of_mem _ hz)
    by_cases hy : st.1 y = true
    · rw [if_pos hy]; exact steps_ac h ac f x l st hr hl' hc ho hlt
    · rw [if_neg hy]
      have hy' : st.1 y = false := by simpa using hy
      obtain ⟨hyn, hyx⟩ := hl y (List.mem_cons_self ..)
      have h1 := (visit_vis h f y st hyn hy' hc).1
      have hc' : cnt S.length (visit S f y st).1 ≤ f := Nat.le_trans (cnt_le (fun z hz => h1.mono hz)) hc
      refine steps_ac h ac f x l _ hr hl' hc' (visit_ac h ac f y st hyn (.step hr hyx (by omega)) hy' hc ho (fun z hz => ?_)) (fun z hz => ?_)
      · rcases hlt z hz with e | e
        · exact .inl e
        · exact .inr (.step e hyx (by omega))
      · obtain ⟨n, e1, e2, _⟩ := h1.new
        rw [e1]
        rcases (e2 z).mp hz with e | e
        · rcases hlt z e with e | e
          · exact .inl (List.mem_append.mpr (.inl e))
          · exact .inr e
        · exact .inl (List.mem_append.mpr (.inr e))
end
theorem dfs_ac {S : List (List Nat)} (h : Gr S) {r : Nat} (hr : r < S.length) (ac : Ac S r) : ∀ l a t, dfs S r = t ++ a :: l → ∀ y ∈ S.getD a [], y ∈ l := by
  intro l a t e y hy
  have h1 := visit_ac h ac S.length r (none', []) hr (.base (by omega)) rfl (Nat.le_of_eq (cnt_none _)) (fun l a t e => by simp at e) (fun z hz => by cases hz)
  have e2 : (visit S S.length r (none', [])).2 = l.reverse ++ a :: t.reverse := by
    have := congrArg List.reverse e
    rw [dfs, List.reverse_reverse] at this
    rw [this]; simp
  exact List.mem_reverse.mp (h1 _ _ _ e2 y hy)
theorem getD_split {l : List Nat} {i : Nat} (h : i < l.length) : l = l.take i ++ l.getD i 0 :: l.drop (i + 1) := by
  rw [← drop_getD l i 0 h, List.take_append_drop]
/-- The order's places go up along each way on. -/
def Fw (S : List (List Nat)) (r : Nat) (at_ : Nat → Nat) : Prop := ∀ x, Rch S (-1) r x → ∀ y ∈ S.getD x [], at_ x < at_ y
theorem ac_fw {S : List (List Nat)} (h : Gr S) {r : Nat} (hr : r < S.length) {at_ : Nat → Nat} (ha : Places (dfs S r) at_) : Ac S r ↔ Fw S r at_ := by
  constructor
  · intro ac x hx y hy
    obtain ⟨i, hi, e⟩ := mem_at ((dfs_mem h hr x).mpr hx)
    have h1 := dfs_ac h hr ac _ _ _ (getD_split hi) y (by rw [e]; exact hy)
    obtain ⟨j, hj, e2⟩ := mem_at h1
    rw [List.length_drop] at hj
    have e3 : ((dfs S r).drop (i + 1)).getD j 0 = (dfs S r).getD (i + 1 + j) 0 := by
      rw [List.getD_eq_getElem?_getD, List.getElem?_drop, ← List.getD_eq_getElem?_getD]
    rw [e3] at e2
    rw [← e, ← e2, ha i hi, ha (i + 1 + j) (by omega)]; omega
  · intro fw a hra y hy hya
    have key : ∀ b, Rch S (-1) y b → Rch S (-1) r b ∧ at_ y ≤ at_ b := by
      intro b hb
      induction hb with
      | base _ => exact ⟨.step hra hy (by omega), Nat.le_refl _⟩
      | @step c z _ hz _ ih => exact ⟨.step ih.1 hz (by omega), by have := fw c ih.1 z hz; omega⟩
    have h1 := fw a hra y hy
    have h2 := (key a hya).2
    omega

/-- A way back. -/
def Bck (S : List (List Nat)) (a b : Nat) : Prop := b ∈ S.getD a [] ∧ Dm S 0 b a
/-- A block of a head's loop. -/
def Lp (S : List (List Nat)) (h x : Nat) : Prop := x = h ∨ (Rch S (-1) 0 x ∧ ∃ l, Bck S l h ∧ Rch S (h : Int) x l)
theorem Rch.last {S : List (List Nat)} {w : Int} {a b : Nat} (h : Rch S w a b) : (b : Int) ≠ w := by cases h <;> assumption
theorem Rch.first {S : List (List Nat)} {w : Int} {a b : Nat} (h : Rch S w a b) : (a : Int) ≠ w := by
  induction h with
  | base h => exact h
  | step _ _ _ ih => exact ih
theorem Rch.any {S : List (List Nat)} {w : Int} {a b : Nat} (h : Rch S w a b) : Rch S (-1) a b := by
  induction h with
  | base _ => exact .base (by omega)
  | step _ hy _ ih => exact .step ih hy (by omega)
/-- A way that may come through d: it doesn't, or the rest behind d is told. -/
theorem Rch.avoid {S : List (List Nat)} {w : Int} {a b d : Nat} (h : Rch S w a b) : Rch S (d : Int) a b ∨ Rch S w d b := by
  induction h with
  | base h =>
    by_cases e : a = d
    · subst e; exact .inr (.base h)
    · exact .inl (.base (by omega))
  | @step c y _ hy hw ih =>
    by_cases e : y = d
    · subst e; exact .inr (.base hw)
    · rcases ih with ih | ih
      · exact .inl (.step ih hy (by omega))
      · exact .inr (.step ih hy hw)
section
variable {S : List (List Nat)} {at_ par : Nat → Nat}
/-- What leads to a block without one of those that dominate it begins at a block that that one dominates. -/
theorem dm_into {h x l : Nat} (hl : Dm S 0 h l) (hx : Rch S (-1) 0 x) (hw : Rch S (h : Int) x l) : Dm S 0 h x :=
  ⟨hx, fun h' => hl.2 (h'.trans hw)⟩
theorem lp_dm {h x : Nat} (hh : Rch S (-1) 0 h) (hx : Lp S h x) : Dm S 0 h x := by
  rcases hx with rfl | ⟨h1, l, h2, h3⟩
  · exact dm_refl hh
  · exact dm_into h2.2 h1 h3
theorem lp_rch {h x : Nat} (hh : Rch S (-1) 0 h) (hx : Lp S h x) : Rch S (-1) 0 x := (lp_dm hh hx).1
/-- From a block one comes to another one, without a third: from what dominates the other one, if the third dominates the first. -/
theorem dm_way {h k x : Nat} (hkh : h ≠ k) (hd : Dm S 0 h k) (hk : Dm S 0 k x) (hP : Pl S 0 at_ par) : Rch S (h : Int) k x := by
  have h1 : ∀ y, Rch S (-1) 0 y → Rch S (k : Int) 0 y ∨ Rch S (h : Int) k y ∨ Rch S (k : Int) h y := by
    intro y hy
    exact dm_last (d := k) (e := h) (fun e => hkh e.symm) hy
  rcases h1 x hk.1 with h2 | h2 | h2
  · exact absurd h2 hk.2
  · exact h2
  · have h3 : ¬ Dm S 0 k h := fun hc => hkh (dm_antisymm hP hd hc)
    have h4 : Rch S (k : Int) 0 h := Classical.byContradiction (fun hn => h3 ⟨dm_rch hd, hn⟩)
    exact absurd (h4.trans h2) hk.2
theorem lp_within {h k x : Nat} (hP : Pl S 0 at_ par) (hne : h ≠ k) (hkr : Rch S (-1) 0 k) (hd : Dm S 0 h k) (hx : Lp S h x) (hkx : Lp S k x) : ∀ y, Lp S k y → Lp S h y := by
  -- x is not h: else k dominates h, too
  have hkx' := lp_dm hkr hkx
  have hxh : x ≠ h := by
    rintro rfl
    exact hne (dm_antisymm hP hd hkx')
  obtain ⟨hx1, l, hl, hxl⟩ := hx.resolve_left hxh
  have hkxw : Rch S (h : Int) k x := dm_way hne hd hkx' hP
  have hkl : Rch S (h : Int) k l := hkxw.trans hxl
  intro y hy
  rcases hy with rfl | ⟨hy1, m, hm, hym⟩
  · exact .inr ⟨hkr, l, hl, hkl⟩
  · refine .inr ⟨hy1, l, hl, ?_⟩
    -- from y to m without h
    have hyk := dm_into hm.2 hy1 hym
    have h3 : ¬ Dm S 0 k h := fun hc => hne (dm_antisymm hP hd hc)
    have h4 : Rch S (k : Int) 0 h := Classical.byContradiction (fun hn => h3 ⟨dm_rch hd, hn⟩)
    have hymh : Rch S (h : Int) y m := by
      rcases hym.avoid (d := h) with h5 | h5
      · exact h5
      · exact absurd (h4.trans h5) hm.2.2
    exact (hymh.trans (.step (.base hymh.last) hm.1 (by omega))).trans hkl
/-- Two loops of different heads that have a block in common: one lies within the other one. -/
theorem lp_nest {h k x : Nat} (hP : Pl S 0 at_ par) (hhr : Rch S (-1) 0 h) (hkr : Rch S (-1) 0 k) (hx : Lp S h x) (hkx : Lp S k x) : (∀ y, Lp S k y → Lp S h y) ∨ (∀ y, Lp S h y → Lp S k y) := by
  by_cases hne : h = k
  · subst hne; exact .inl (fun y hy => hy)
  · rcases dm_line (lp_dm hhr hx) (lp_dm hkr hkx) with hd | hd
    · exact .inl (lp_within hP hne hkr hd hx hkx)
    · exact .inr (lp_within hP (fun e => hne e.symm) hhr hd hkx hx)
end
end Go.Proofs.Ytoekeknfeinphaa.GP
namespace Go.Proofs.Ytoekeknfeinphaa.G
open Go.Proofs.YtoekeknfeinphaaH
open Go.RowKit Go.Proofs.YtoekeknfeinphaaW.PrintWords Go.Proofs.YtoekeknfeinphaaW.PrintLast Go.Proofs.YtoekeknfeinphaaW.PrintMore
attribute [local go_sem] max2_int min2_int max_two min_two max_three min_three max_four min_four   -- for this text's walks alone
set_option linter.unusedVariables false
set_option linter.unusedSimpArgs false

/-! ### dom_Kids: function 27 -/
def dom_Kids.l0 : Nat → List Int → Int → List Int → List Int → Int → Int → Option (List Int)
 | 0, _, _, _, _, _, _ => none
 | k + 1, x0, x1, x5, x8, x9, x10 => if x10 < x9 then (if 0 ≤ x10 then (if x10 < (x8.length : Int) then (if (rd x8 x10) = x1 then ((dom_in.f k x0 (([x1] : List Int))).bind fun t697 => (if t697 = true then (if x5.length < 17592186044416 then (dom_Kids.l0 k x0 x1 (x5 ++ [x10]) x8 x9 (wrap64 (x10 + 1))) else (none)) else (dom_Kids.l0 k x0 x1 x5 x8 x9 (wrap64 (x10 + 1))))) else (dom_Kids.l0 k x0 x1 x5 x8 x9 (wrap64 (x10 + 1)))) else (none)) else (none)) else (some x5)
def dom_Kids.f (k : Nat) (l0 : List Int) (a1 : Int) : Option (List Int) := dom_Kids.l0 k l0 a1 ([] : List Int) l0 (l0.length : Int) 0
theorem dom_Kids.mono_l : ∀ k, (∀ y0 y1 y2 y3 y4 y5, LeO (dom_Kids.l0 k y0 y1 y2 y3 y4 y5) (dom_Kids.l0 (k + 1) y0 y1 y2 y3 y4 y5))
 | 0 => fun _ _ _ _ _ _ r h => by simp [dom_Kids.l0] at h
 | k + 1 => by
  have ih0 := dom_Kids.mono_l k
  ·intro y0 y1 y2 y3 y4 y5
   unfold dom_Kids.l0
   repeat' first
   | (with_reducible exact ih0 _ _ _ _ _ _)
   | (with_reducible exact dom_in.mono _ _ _)
   | (with_reducible exact LeO.refl _)
   | (with_reducible exact LeO.none _)
   | (with_reducible refine LeO.ite ?_ ?_)
   | (with_reducible refine LeO.bind ?_ (fun _ => ?_))
   | exact ih0 _ _ _ _ _ _
   | exact dom_in.mono _ _ _
   | exact LeO.none _
   | refine LeO.ite ?_ ?_
   | refine LeO.bind ?_ (fun _ => ?_)
theorem dom_Kids.mono : ∀ a0 a1 k, LeO (dom_Kids.f k a0 a1) (dom_Kids.f (k + 1) a0 a1) := by
 intro a0 a1 k
 have ih0 := dom_Kids.mono_l k
 unfold dom_Kids.f
 repeat' first
  | (with_reducible exact ih0 _ _ _ _ _ _)
  | (with_reducible exact dom_in.mono _ _ _)
  | (with_reducible exact LeO.refl _)
  | (with_reducible exact LeO.none _)
  | (with_reducible refine LeO.ite ?_ ?_)
  | (with_reducible refine LeO.bind ?_ (fun _ => ?_))
  | exact ih0 _ _ _ _ _ _
  | exact dom_in.mono _ _ _
  | exact LeO.none _
  | refine LeO.ite ?_ ?_
  | refine LeO.bind ?_ (fun _ => ?_)
set_option maxHeartbeats 8000000 in
set_option maxRecDepth 100000 in
theorem dom_Kids.calls (k : Nat) (A0 : Option Addr) (c0 : Nat) (l0 : List Int) (a1 : Int) (r : List Int) (w : World) (hr0 : Kd.C (Kd.int .i64) w A0 l0.length l0) (hc0 : l0.length ≤ c0) (h : dom_Kids.f k l0 a1 = some r) :
 Calls Try.prog 27 #[.slice A0 l0.length c0, .int .i64 a1] w fun e w' => ∃ v0_ : Value, e = .returned (v0_) ∧ Kd.R (Kd.int .i64) 3 w' w.heap.size (fun _ => True) v0_ r ∧ Below w.heap.size w w' := by
 have HR0 := Aside0.mk hr0
 have HC0 := Aside0.mk hc0
 clear hr0 hc0
 have HB := Aside0.mk (Below.refl w.heap.size w)
 have H : (dom_Kids.l0 k l0 a1 ([] : List Int) l0 (l0.length : Int) 0) = some r := h
 clear h
 have H' := Aside0.mk H
 clear H
 go_enter Try.func27, Try.ntmps27
 go_wp2
 go_loopg [5, 10] k (fun kq v5 v10 w' => ∃ (x5_1 : List Int) (x10_1 : Int), v10 = .int .i64 x10_1 ∧ Aside0 (dom_Kids.l0 kq l0 a1 x5_1 l0 (l0.length : Int) x10_1 = some r) ∧ Aside0 (kq ≤ k) ∧ Aside0 (Kd.R (Kd.int .i64) 3 w' w.heap.size (fun _ => True) v5 x5_1) ∧ Aside0 (Below w.heap.size w w'))
 case atStart => exact ⟨(([] : List Int)), (0), (by first | rfl | (simp; done) | (simp [*]; done)), H', ⟨Nat.le_refl _⟩, ⟨by first | exact Kd.R_nil _ _ _ _ _ | exact Kd.N_nil _ _ _ _ _ | exact Kd.V_nil _ _ _ _ _ | exact Kd.Q_nil _ _ _ _ _ | exact Kd.S_nil _ _ _ _ _⟩, ⟨B_⟩⟩
 case round =>
  clear H'
  obtain ⟨x5_1, x10_1, rfl, HA, HK1, HO_5, HB⟩ := hrel
  cases gk with
  | zero => exact absurd HA.out (by simp [dom_Kids.l0])
  | succ k1 =>
   have H := HA.out
   clear HA
   simp only [dom_Kids.l0] at H
   by_cases c3 : x10_1 < (l0.length : Int)
   ·rw [if_pos c3] at H
    have c3b0 : decide (x10_1 < (l0.length : Int)) = true := decide_eq_true c3
    clear c3
    by_cases c4 : 0 ≤ x10_1
    ·rw [if_pos c4] at H
     have c4b0 : decide (0 ≤ x10_1) = true := decide_eq_true c4
     clear c4
     by_cases c5 : x10_1 < (l0.length : Int)
     ·rw [if_pos c5] at H
      have c5b0 : decide (x10_1 < (l0.length : Int)) = true := decide_eq_true c5
      clear c5
      by_cases c6 : (rd l0 x10_1) = a1
      ·rw [if_pos c6] at H
       have c6b0 : ((rd l0 x10_1) == a1) = true := beq_iff_eq.mpr c6
       have c6b1 : ((rd l0 x10_1) != a1) = false := bne_eq_false_iff_eq.mpr c6
       clear c6
       obtain ⟨y694, hy694⟩ : ∃ y_ : List Int, y_ = (([a1] : List Int)) := ⟨_, rfl⟩
       replace H : ((dom_in.f k1 l0 y694).bind fun t697 => (if t697 = true then (if x5_1.length < 17592186044416 then (dom_Kids.l0 k1 l0 a1 (x5_1 ++ [x10_1]) l0 (l0.length : Int) (wrap64 (x10_1 + 1))) else (none)) else (dom_Kids.l0 k1 l0 a1 x5_1 l0 (l0.length : Int) (wrap64 (x10_1 + 1))))) = some r := by first | (rw [hy694]; with_reducible exact H) | (have H2_ := (Option.bind_some _ _).symm.trans H; rw [hy694]; with_reducible exact H2_) | (have H2_ := (Option.bind_some _ _).symm.trans H; with_reducible exact H2_) | with_reducible exact H | (rw [hy694]; exact H) | exact H
       have Ny694 := Aside0.mk hy694
       clear hy694
       replace H := Option.bind_eq_some_iff.mp H
       obtain ⟨t697, A70, H⟩ := H
       replace H : (if t697 = true then (if x5_1.length < 17592186044416 then (dom_Kids.l0 k1 l0 a1 (x5_1 ++ [x10_1]) l0 (l0.length : Int) (wrap64 (x10_1 + 1))) else (none)) else (dom_Kids.l0 k1 l0 a1 x5_1 l0 (l0.length : Int) (wrap64 (x10_1 + 1)))) = some r := H
       have A7 := Aside0.mk A70
       clear A70
       by_cases c8 : t697 = true
       ·subst c8
        have H1 : (if x5_1.length < 17592186044416 then (dom_Kids.l0 k1 l0 a1 (x5_1 ++ [x10_1]) l0 (l0.length : Int) (wrap64 (x10_1 + 1))) else (none)) = some r := by rw [if_pos rfl] at H; exact H
        clear H
        have H := H1
        clear H1
        by_cases c9 : x5_1.length < 17592186044416
        ·rw [if_pos c9] at H
         have LMc9 := Aside0.mk c9
         clear c9
         obtain ⟨y698, hy698⟩ : ∃ y_ : List Int, y_ = (x5_1 ++ [x10_1]) := ⟨_, rfl⟩
         replace H : (dom_Kids.l0 k1 l0 a1 y698 l0 (l0.length : Int) (wrap64 (x10_1 + 1))) = some r := by first | (rw [hy698]; with_reducible exact H) | (have H2_ := (Option.bind_some _ _).symm.trans H; rw [hy698]; with_reducible exact H2_) | (have H2_ := (Option.bind_some _ _).symm.trans H; with_reducible exact H2_) | with_reducible exact H | (rw [hy698]; exact H) | exact H
         have Ny698 := Aside0.mk hy698
         clear hy698
         have H' := Aside0.mk H
         clear H
         have p693 : 0 ≤ (x10_1 : Int) := D_
         have q693 : x10_1 < (l0.length : Int) := D_
         obtain ⟨ad693, e693, hx693_0⟩ := Kd.at_int HR0.out x10_1 p693 q693
         cases e693
         replace hx693_0 := (HB.out.cell (World.block_lt_of_cell? w _ hx693_0)).trans hx693_0
         replace p693 := eq_true p693
         replace q693 := eq_true q693
         go_wp2_with (first | ((with_reducible refine gate_dst (N := 21) rfl ?_); (try (refine gate_guard (by rfl) ?_; dsimp only)); refine Kd.R_lit (Kd.int .i64) _ 3 ?hg (N := 21) ?hd (xs := ([a1] : List Int)) (inner := [.int .i64 a1]) (ok := fun _ => True) (okp := fun _ => True) ?hr ?hp (fun _ hk => hk) trivial (Below.refl _ _) (Nat.le_refl _) (by simp) ?_; (case hd => rfl); (case hg => rfl); (case hr => first | (go_simp; done) | (go_simp; rfl)); (case hp => exact (Reps.one (show Kd.M (Kd.int .i64) _ _ _ a1 [.int .i64 a1] from rfl) (Reps.none _ _))); intro v695 w10 ho11 hb hg_ hnew_; clear hg_ hnew_; (first | rw [← Ny694.out] at ho11 | (simp only [Int.reduceToNat] at ho11; rw [← Ny694.out] at ho11)); have n0_ := Aside0.mk (Kd.R_elder' (by exact RX_ HO_5.out) (Kd.R_base ho11) hb); have n1_ := Aside0.mk (Kd.R_lower (Kd.R_new' ho11 (Kd.R_lt (by exact RX_ HO_5.out))) (below_size (B_))); have n2_ := Aside0.mk (below_step (B_) hb); clear HO_5; clear HB; have HO_5 := n0_; have HO696 := n1_; have HB := n2_; clear n0_ n1_ n2_; clear hb ho11; obtain ⟨Ao12, co12, eo12⟩ := Kd.R_slice HO696.out; subst eo12) | (go_at_call 35; (with_reducible refine (dom_in.calls k1 _ _ l0 _ _ y694 true _ ?side1 ?side2 ?side3 ?side4 A7.out).mono ?_); (case side1 => exact CX_ (Kd.C_below HR0.out HB.out)); (case side2 => exact HC0.out); (case side3 => repeat (first | exact (Kd.R_reads' HO696.out).2.2 | (with_reducible refine Kd.C_alloc ?_ _) | (with_reducible refine Kd.C_drewN ?_ _) | (with_reducible refine Kd.C_drew ?_))); (case side4 => exact (Kd.R_reads' HO696.out).2.1); rintro e w13 ⟨rfl, hb⟩; have n0_ := Aside0.mk (Kd.R_below (by exact RX_ HO_5.out) hb); have n1_ := Aside0.mk (Kd.R_below (by exact RX_ HO696.out) hb); have n2_ := Aside0.mk (below_step (B_) hb); clear HO_5; clear HO696; clear HB; have HO_5 := n0_; have HO696 := n1_; have HB := n2_; clear n0_ n1_ n2_; (try clear hb); (try clear hb2); (try clear hk); (try clear hi)) | ((with_reducible refine gate_builtin (b := .append) (xs := #[.tmp 24, .tmp 26]) rfl ?_); (try (refine gate_guard (by rfl) ?_; dsimp only)); at_builtin; refine Kd.R_append (Kd.int .i64) (w0 := w) w.heap.size rfl (.tmp 24) (.tmp 26) 31 3 (.int .i64 0) 8 rfl Try.underlying31 info3 rfl (by decide) (by omega) u5 x5_1 x10_1 [.int .i64 x10_1] (fun k_ => some k_ ≠ (.slice Ao12 y694.length co12 : Value).ownBlock) (fun _ => False) rfl rfl ?aP (fun _ hk => hk.elim) ?aF ?aO ?aB ?aS ?aL ?_; (case aP => exact rfl); (case aB => exact (B_)); (case aF => exact (fun k_ hk => Kd.fresh' (Kd.R_lt (by exact RX_ HO696.out)) k_ hk)); (case aO => exact (by (with_reducible repeat (first | apply Kd.R_alloc | apply Kd.R_drewN | apply Kd.R_drew)); exact Kd.R_mono HO_5.out (fun _ hk => by first | exact hk.2 | exact hk | exact ⟨hk.1, hk.2⟩ | simp_all))); (case aS => exact (below_size (B_))); (case aL => have := LMc9.out; omega); intro v699 w14 ho hb hg hat; rw [← Ny698.out] at ho; have n0_ := Aside0.mk (Kd.R_after (ok := (fun _ => True)) (by exact RX_ HO696.out) hg hat); have n1_ := Aside0.mk (hb); have n2_ := Aside0.mk (ho); clear HO696; clear HB; clear HO_5; have HO696 := n0_; have HB := n1_; have HO700 := n2_; clear n0_ n1_ n2_; clear ho hb hg hat))
         go_roundg k1
         case measure => have := HK1.out; omega
         case rel => exact ⟨(y698), (wrap64 (x10_1 + 1)), (by first | rfl | (simp; done) | (simp [*]; done)), H', ⟨by have := HK1.out; omega⟩, ⟨by (with_reducible repeat (first | apply Kd.R_alloc | apply Kd.R_drewN | apply Kd.R_drew)); exact Kd.R_mono HO700.out (fun _ hk => trivial)⟩, ⟨B_⟩⟩
        rw [if_neg c9] at H
        exact absurd H (by simp)
       replace c8 := Bool.eq_false_iff.mpr c8
       subst c8
       have H1 : (dom_Kids.l0 k1 l0 a1 x5_1 l0 (l0.length : Int) (wrap64 (x10_1 + 1))) = some r := by rw [if_neg (show ¬ (false = true) by decide)] at H; exact H
       clear H
       have H := H1
       clear H1
       have H' := Aside0.mk H
       clear H
       have p693 : 0 ≤ (x10_1 : Int) := D_
       have q693 : x10_1 < (l0.length : Int) := D_
       obtain ⟨ad693, e693, hx693_0⟩ := Kd.at_int HR0.out x10_1 p693 q693
       cases e693
       replace hx693_0 := (HB.out.cell (World.block_lt_of_cell? w _ hx693_0)).trans hx693_0
       replace p693 := eq_true p693
       replace q693 := eq_true q693
       go_wp2_with (first | ((with_reducible refine gate_dst (N := 21) rfl ?_); (try (refine gate_guard (by rfl) ?_; dsimp only)); refine Kd.R_lit (Kd.int .i64) _ 3 ?hg (N := 21) ?hd (xs := ([a1] : List Int)) (inner := [.int .i64 a1]) (ok := fun _ => True) (okp := fun _ => True) ?hr ?hp (fun _ hk => hk) trivial (Below.refl _ _) (Nat.le_refl _) (by simp) ?_; (case hd => rfl); (case hg => rfl); (case hr => first | (go_simp; done) | (go_simp; rfl)); (case hp => exact (Reps.one (show Kd.M (Kd.int .i64) _ _ _ a1 [.int .i64 a1] from rfl) (Reps.none _ _))); intro v695 w15 ho16 hb hg_ hnew_; clear hg_ hnew_; (first | rw [← Ny694.out] at ho16 | (simp only [Int.reduceToNat] at ho16; rw [← Ny694.out] at ho16)); have n0_ := Aside0.mk (Kd.R_elder' (by exact RX_ HO_5.out) (Kd.R_base ho16) hb); have n1_ := Aside0.mk (Kd.R_lower (Kd.R_new' ho16 (Kd.R_lt (by exact RX_ HO_5.out))) (below_size (B_))); have n2_ := Aside0.mk (below_step (B_) hb); clear HO_5; clear HB; have HO_5 := n0_; have HO696 := n1_; have HB := n2_; clear n0_ n1_ n2_; clear hb ho16; obtain ⟨Ao17, co17, eo17⟩ := Kd.R_slice HO696.out; subst eo17) | (go_at_call 35; (with_reducible refine (dom_in.calls k1 _ _ l0 _ _ y694 false _ ?side1 ?side2 ?side3 ?side4 A7.out).mono ?_); (case side1 => exact CX_ (Kd.C_below HR0.out HB.out)); (case side2 => exact HC0.out); (case side3 => repeat (first | exact (Kd.R_reads' HO696.out).2.2 | (with_reducible refine Kd.C_alloc ?_ _) | (with_reducible refine Kd.C_drewN ?_ _) | (with_reducible refine Kd.C_drew ?_))); (case side4 => exact (Kd.R_reads' HO696.out).2.1); rintro e w18 ⟨rfl, hb⟩; have n0_ := Aside0.mk (Kd.R_below (by exact RX_ HO_5.out) hb); have n1_ := Aside0.mk (Kd.R_below (by exact RX_ HO696.out) hb); have n2_ := Aside0.mk (below_step (B_) hb); clear HO_5; clear HO696; clear HB; have HO_5 := n0_; have HO696 := n1_; have HB := n2_; clear n0_ n1_ n2_; (try clear hb); (try clear hb2); (try clear hk); (try clear hi)))
       go_roundg k1
       case measure => have := HK1.out; omega
       case rel => exact ⟨(x5_1), (wrap64 (x10_1 + 1)), (by first | rfl | (simp; done) | (simp [*]; done)), H', ⟨by have := HK1.out; omega⟩, ⟨by (with_reducible repeat (first | apply Kd.R_alloc | apply Kd.R_drewN | apply Kd.R_drew)); exact Kd.R_mono HO_5.out (fun _ hk => trivial)⟩, ⟨B_⟩⟩
      rw [if_neg c6] at H
      have c6b0 : ((rd l0 x10_1) == a1) = false := beq_eq_false_iff_ne.mpr c6
      have c6b1 : ((rd l0 x10_1) != a1) = true := bne_iff_ne.mpr c6
      have H' := Aside0.mk H
      clear H
      have p693 : 0 ≤ (x10_1 : Int) := D_
      have q693 : x10_1 < (l0.length : Int) := D_
      obtain ⟨ad693, e693, hx693_0⟩ := Kd.at_int HR0.out x10_1 p693 q693
      cases e693
      replace hx693_0 := (HB.out.cell (World.block_lt_of_cell? w _ hx693_0)).trans hx693_0
      replace p693 := eq_true p693
      replace q693 := eq_true q693
      go_wp2
      go_roundg k1
      case measure => have := HK1.out; omega
      case rel => exact ⟨(x5_1), (wrap64 (x10_1 + 1)), (by first | rfl | (simp; done) | (simp [*]; done)), H', ⟨by have := HK1.out; omega⟩, ⟨by exact RM_ HO_5.out⟩, ⟨B_⟩⟩
     rw [if_neg c5] at H
     exact absurd H (by simp)
    rw [if_neg c4] at H
    exact absurd H (by simp)
   rw [if_neg c3] at H
   have c3b0 : decide (x10_1 < (l0.length : Int)) = false := decide_eq_false c3
   clear c3
   obtain rfl := Option.some.inj H
   go_wp2
   go_ret
   exact ⟨_, by first | rfl | (simp [errW_none, errW_some] <;> rfl) | (simp [*, errW_none, errW_some] <;> rfl), by exact RX_ HO_5.out, B_⟩

end Go.Proofs.Ytoekeknfeinphaa.G
namespace Go.Proofs.Ytoekeknfeinphaa.GP
open Go.RowKit Go.Proofs.Ytoekeknfeinphaa.G Go.Proofs.YtoekeknfeinphaaW.PrintWords

/-- The way up from a place. -/
def pth (t : List Int) : Nat → Int → Option (List Int)
  | 0, _ => none
  | f + 1, a => if a < 0 ∨ (t.length : Int) ≤ a then none else if rd t a = -1 then some [a] else (pth t f (rd t a)).map (a :: ·)
abbrev way (t : List Int) (a : Int) : Option (List Int) := pth t t.length a
theorem pth_step {t : List Int} {f : Nat} {a : Int} (h0 : 0 ≤ a) (h1 : a < (t.length : Int)) (ht : rd t a ≠ -1) : pth t (f + 1) a = (pth t f (rd t a)).map (a :: ·) := by
  rw [pth, if_neg (by omega), if_neg ht]
theorem pth_top {t : List Int} {f : Nat} {a : Int} (h0 : 0 ≤ a) (h1 : a < (t.length : Int)) (ht : rd t a = -1) : pth t (f + 1) a = some [a] := by
  rw [pth, if_neg (by omega), if_pos ht]
theorem pth_out {t : List Int} {f : Nat} {a : Int} (h : a < 0 ∨ (t.length : Int) ≤ a) : pth t f a = none := by
  cases f with
  | zero => rfl
  | succ f => rw [pth, if_pos h]
theorem pth_more {t : List Int} : ∀ {f g : Nat} {a : Int} {l : List Int}, f ≤ g → pth t f a = some l → pth t g a = some l := by
  intro f
  induction f with
  | zero => intro g a l _ h; simp [pth] at h
  | succ f ih =>
    intro g a l hg h
    obtain ⟨g, rfl⟩ : ∃ m, g = m + 1 := ⟨g - 1, by omega⟩
    rw [pth] at h ⊢
    by_cases ho : a < 0 ∨ (t.length : Int) ≤ a
    · rw [if_pos ho] at h; cases h
    · rw [if_neg ho] at h ⊢
      by_cases ht : rd t a = -1
      · rw [if_pos ht] at h ⊢; exact h
      · rw [if_neg ht] at h ⊢
        cases hq : pth t f (rd t a) with
        | none => rw [hq] at h; cases h
        | some m => rw [hq] at h; rw [ih (by omega) hq]; exact h
/-- A way is cut: from each place on it it goes on. -/
theorem pth_form {t : List Int} {f : Nat} {a : Int} {l : List Int} (h : pth t f a = some l) : 0 ≤ a ∧ a < (t.length : Int) ∧ l.length ≤ f ∧
    ((rd t a = -1 ∧ l = [a]) ∨ (rd t a ≠ -1 ∧ ∃ m, l = a :: m ∧ pth t (f - 1) (rd t a) = some m)) := by
  cases f with
  | zero => simp [pth] at h
  | succ f =>
    rw [pth] at h
    by_cases ho : a < 0 ∨ (t.length : Int) ≤ a
    · rw [if_pos ho] at h; cases h
    · rw [if_neg ho] at h
      refine ⟨by omega, by omega, ?_⟩
      have key : ∀ (g : Nat) (b : Int) (m : List Int), pth t g b = some m → m.length ≤ g := by
        intro g
        induction g with
        | zero => intro b m h; simp [pth] at h
        | succ g ih =>
          intro b m h
          rw [pth] at h
          by_cases ho : b < 0 ∨ (t.length : Int) ≤ b
          · rw [if_pos ho] at h; cases h
          · rw [if_neg ho] at h
            by_cases ht : rd t b = -1
            · rw [if_pos ht] at h; cases h; simp
            · rw [if_neg ht] at h
              cases hq : pth t g (rd t b) with
              | none => rw [hq] at h; cases h
              | some m' => rw [hq] at h; cases h; have := ih _ _ hq; simp; omega
      by_cases ht : rd t a = -1
      · rw [if_pos ht] at h; cases h
        exact ⟨by simp, .inl ⟨ht, rfl⟩⟩
      · rw [if_neg ht] at h
        cases hq : pth t f (rd t a) with
        | none => rw [hq] at h; cases h
        | some m =>
          rw [hq] at h; cases h
          have := key _ _ _ hq
          exact ⟨by simp; omega, .inr ⟨ht, m, rfl, hq⟩⟩
theorem way_form {t : List Int} {a : Int} {l : List Int} (h : way t a = some l) : 0 ≤ a ∧ a < (t.length : Int) ∧ l.length ≤ t.length ∧
    ((rd t a = -1 ∧ l = [a]) ∨ (rd t a ≠ -1 ∧ ∃ m, l = a :: m ∧ way t (rd t a) = some m)) := by
  obtain ⟨h1, h2, h3, h4⟩ := pth_form h
  refine ⟨h1, h2, h3, ?_⟩
  rcases h4 with h4 | ⟨h4, m, h5, h6⟩
  · exact .inl h4
  · exact .inr ⟨h4, m, h5, pth_more (by omega) h6⟩
theorem way_mem {t : List Int} : ∀ {l : List Int} {a x : Int}, way t a = some l → x ∈ l → x = a ∨ ∃ m, way t x = some m ∧ m.length < l.length := by
  intro l
  induction l with
  | nil => intro a x _ hx; cases hx
  | cons y l ih =>
    intro a x h hx
    obtain ⟨_, _, _, h4⟩ := way_form h
    rcases h4 with ⟨_, h5⟩ | ⟨_, m, h5, h6⟩
    · cases h5; left; simpa using hx
    · cases h5
      rcases List.mem_cons.mp hx with e | e
      · exact .inl e
      · rcases ih h6 e with e' | ⟨m', h7, h8⟩
        · subst e'; exact .inr ⟨l, h6, by simp⟩
        · exact .inr ⟨m', h7, by simp; omega⟩

/-! #### how far down -/
def dep (t : List Int) (a : Int) : Int := match way t a with | none => -1 | some l => (l.length : Int) - 1
theorem depth_l0 (t : List Int) (hb : t.length ≤ 1000) (d : Nat) : ∀ (i : Nat) (a : Int), t.length - i = d → i ≤ t.length →
    Ev (fun k => dom_depth.l0 k t a (t.length : Int) (i : Int)) (match pth t d a with | none => -1 | some l => (i : Int) + l.length - 1) := by
  induction d with
  | zero =>
    intro i a hd hi
    refine Ev.succ ?_; simp only [dom_depth.l0]
    exact Ev.ifn (by omega) (Ev.pure.of_eq (by simp [pth]))
  | succ d ih =>
    intro i a hd hi
    refine Ev.succ ?_; simp only [dom_depth.l0]
    refine Ev.ifp (by omega) ?_
    have hout : a < 0 ∨ (t.length : Int) ≤ a → Ev (fun k => dom_depth.j1 k t a (i : Int) (t.length : Int) (i : Int) true) (match pth t (d + 1) a with | none => -1 | some l => (i : Int) + l.length - 1) := by
      intro ho
      rw [pth_out ho]
      refine Ev.succ ?_; simp only [dom_depth.j1]
      exact Ev.ifp trivial Ev.pure
    by_cases h0 : a < 0
    · exact Ev.ifp h0 (hout (.inl h0))
    · refine Ev.ifn h0 ?_
      by_cases h1 : a ≥ (t.length : Int)
      · rw [decide_eq_true h1]; exact hout (.inr h1)
      · rw [decide_eq_false h1]
        refine Ev.succ ?_; simp only [dom_depth.j1]
        refine Ev.ifn (by decide) (Ev.ifp (by omega) (Ev.ifp (by omega) ?_))
        by_cases ht : rd t a = -1
        · refine Ev.ifp ht (Ev.pure.of_eq ?_)
          rw [pth_top (by omega) (by omega) ht]; simp
        · refine Ev.ifn ht ?_
          rw [wrap_nat (by omega)]
          refine (ih (i + 1) (rd t a) (by omega) (by omega)).of_eq ?_
          rw [pth_step (by omega) (by omega) ht]
          cases pth t d (rd t a) with
          | none => rfl
          | some l => simp; omega
theorem depth_ok (t : List Int) (hb : t.length ≤ 1000) (a : Int) : Ev (fun k => dom_depth.f k t a) (dep t a) := by
  unfold dom_depth.f
  refine (depth_l0 t hb t.length 0 a (by omega) (by omega)).of_eq ?_
  unfold dep way
  cases pth t t.length a <;> simp
theorem dep_neg {t : List Int} {a : Int} : dep t a < 0 ↔ way t a = none := by
  unfold dep
  cases h : way t a with
  | none => simp
  | some l =>
    have := (way_form h).2.2.2
    have h2 : 0 < l.length := by rcases this with ⟨_, e⟩ | ⟨_, m, e, _⟩ <;> rw [e] <;> simp
    simp; omega

/-! #### trees -/
/-- Whether all from i on come to the top, and the tops are one with those that are told. -/
def rgo (t : List Int) : Nat → Nat → Int → Bool
  | 0, _, tops => tops == 1
  | d + 1, i, tops => if rd t (i : Int) ≠ -2 ∧ way t (i : Int) = none then false else rgo t d (i + 1) (if rd t (i : Int) = -1 then tops + 1 else tops)
abbrev rgt (t : List Int) : Bool := rgo t t.length 0 0
theorem right_l0 (t : List Int) (hb : t.length ≤ 1000) (d : Nat) : ∀ (i : Nat) (tops : Int), t.length - i = d → i ≤ t.length → 0 ≤ tops → tops ≤ i →
    Ev (fun k => dom_right.l0 k t tops t (t.length : Int) (i : Int)) (rgo t d i tops) := by
  induction d with
  | zero =>
    intro i tops hd hi _ _
    refine Ev.succ ?_; simp only [dom_right.l0]
    exact Ev.ifn (by omega) (Ev.pure.of_eq rfl)
  | succ d ih =>
    intro i tops hd hi h0 h1
    have hwt : wrap64 (tops + 1) = tops + 1 := wrap_id (by omega) (by omega)
    refine Ev.succ ?_; simp only [dom_right.l0]
    refine Ev.ifp (by omega) (Ev.ifp (by omega) (Ev.ifp (by omega) ?_))
    rw [wrap_nat (by omega), hwt, rgo]
    have hcall : ∀ (tops' : Int), rd t (i : Int) ≠ -2 → 0 ≤ tops' → tops' ≤ ((i + 1 : Nat) : Int) → Ev (fun k => (dom_depth.f k t (i : Int)).bind fun t1 => (if t1 < 0 then (some false) else (dom_right.l0 k t tops' t (t.length : Int) ((i + 1 : Nat) : Int)))) (if rd t (i : Int) ≠ -2 ∧ way t (i : Int) = none then false else rgo t d (i + 1) tops') := by
      intro tops' h2 g0 g1
      refine Ev.bind (depth_ok t hb _) ?_
      by_cases hw : way t (i : Int) = none
      · rw [if_pos ⟨h2, hw⟩]; exact Ev.ifp (dep_neg.mpr hw) Ev.pure
      · rw [if_neg (fun h => hw h.2)]; exact Ev.ifn (fun h => hw (dep_neg.mp h)) (ih (i + 1) tops' (by omega) (by omega) g0 g1)
    by_cases e1 : rd t (i : Int) = -1
    · rw [if_pos e1]
      refine Ev.ifp e1 (Ev.ifn (by omega) ?_)
      exact hcall (tops + 1) (by omega) (by omega) (by omega)
    · rw [if_neg e1]
      refine Ev.ifn e1 ?_
      by_cases e2 : rd t (i : Int) = -2
      · rw [if_neg (fun h => h.1 e2)]
        exact Ev.ifp e2 (ih (i + 1) tops (by omega) (by omega) h0 (by omega))
      · exact Ev.ifn e2 (hcall tops e2 h0 (by omega))
theorem right_ok (t : List Int) (hb : t.length ≤ 1000) : Ev (fun k => dom_right.f k t) (rgt t) := by
  unfold dom_right.f
  exact right_l0 t hb t.length 0 0 (by omega) (by omega) (by omega) (by omega)
theorem rgo_le {t : List Int} : ∀ (d i : Nat) (tops : Int), rgo t d i tops = true → tops ≤ 1 := by
  intro d
  induction d with
  | zero => intro i tops h; simp [rgo] at h; omega
  | succ d ih =>
    intro i tops h
    rw [rgo] at h
    split at h
    · cases h
    · have := ih _ _ h; split at this <;> omega
theorem rgo_top {t : List Int} : ∀ (d i : Nat) (tops : Int), rgo t d i tops = true → ∀ a, i ≤ a → a < i + d → rd t (a : Int) = -1 → tops ≤ 0 := by
  intro d
  induction d with
  | zero => intro i tops h a h1 h2; omega
  | succ d ih =>
    intro i tops h a h1 h2 ha
    rw [rgo] at h
    split at h
    · cases h
    · by_cases e : a = i
      · subst e; rw [if_pos ha] at h; have := rgo_le _ _ _ h; omega
      · have := ih _ _ h a (by omega) (by omega) ha; split at this <;> omega
theorem rgo_one {t : List Int} : ∀ (d i : Nat) (tops : Int), rgo t d i tops = true → 0 ≤ tops → ∀ a b, i ≤ a → a < b → b < i + d → rd t (a : Int) = -1 → rd t (b : Int) = -1 → False := by
  intro d
  induction d with
  | zero => intro i tops h _ a b h1 h2 h3; omega
  | succ d ih =>
    intro i tops h h0 a b h1 h2 h3 ha hb
    rw [rgo] at h
    split at h
    · cases h
    · by_cases e : a = i
      · subst e; rw [if_pos ha] at h; have := rgo_top _ _ _ h b (by omega) (by omega) hb; omega
      · exact ih _ _ h (by split <;> omega) a b (by omega) h2 (by omega) ha hb
theorem rgt_one {t : List Int} (h : rgt t = true) {a b : Int} (ha0 : 0 ≤ a) (ha1 : a < (t.length : Int)) (hb0 : 0 ≤ b) (hb1 : b < (t.length : Int)) (ha : rd t a = -1) (hb : rd t b = -1) : a = b := by
  obtain ⟨x, rfl⟩ : ∃ x : Nat, a = (x : Int) := ⟨a.toNat, by omega⟩
  obtain ⟨y, rfl⟩ : ∃ y : Nat, b = (y : Int) := ⟨b.toNat, by omega⟩
  by_cases e : x = y
  · rw [e]
  · exfalso
    by_cases l : x < y
    · exact rgo_one _ _ _ h (by omega) x y (by omega) l (by omega) ha hb
    · exact rgo_one _ _ _ h (by omega) y x (by omega) (by omega) (by omega) hb ha

/-! #### in, Meet, Over, Kids -/
theorem ixf_l0 (t : List Int) (hb : t.length ≤ 1000) (d : Nat) : ∀ (i : Nat) (l : List Int), l.length ≤ 1000 → i ≤ l.length → l.length - i = d →
    ∃ v, Ev (fun k => slices_IndexFunc_int_int_dom_in_1.l0 k l (l.length : Int) (i : Int) t) v ∧ decide (v ≥ 0) = (l.drop i).any (fun a => (way t a).isNone) := by
  induction d with
  | zero =>
    intro i l hl hi hd
    refine ⟨-1, Ev.succ ?_, ?_⟩
    · simp only [slices_IndexFunc_int_int_dom_in_1.l0]; exact Ev.ifn (by omega) Ev.pure
    · rw [List.drop_of_length_le (by omega)]; rfl
  | succ d ih =>
    intro i l hl hi hd
    obtain ⟨v, h1, h2⟩ := ih (i + 1) l hl (by omega) (by omega)
    rw [drop_getD l i 0 (by omega), List.any_cons]
    have hrd : rd l (i : Int) = l.getD i 0 := by simp [rd]
    have hin : Ev (fun k => dom_in_1.f k (rd l (i : Int)) t) (way t (l.getD i 0)).isNone := by
      unfold dom_in_1.f
      refine Ev.bind (depth_ok t hb _) (Ev.pure.of_eq ?_)
      rw [hrd]
      cases hw : way t (l.getD i 0) with
      | none => rw [decide_eq_true (dep_neg.mpr hw)]; rfl
      | some m => rw [decide_eq_false (fun h => by rw [dep_neg.mp h] at hw; cases hw)]; rfl
    cases hw : (way t (l.getD i 0)).isNone with
    | true =>
      refine ⟨(i : Int), Ev.succ ?_, by simp⟩
      simp only [slices_IndexFunc_int_int_dom_in_1.l0]
      refine Ev.ifp (by omega) (Ev.ifp (by omega) (Ev.ifp (by omega) (Ev.bind hin ?_)))
      exact Ev.ifp hw Ev.pure
    | false =>
      refine ⟨v, Ev.succ ?_, by rw [h2]; rfl⟩
      simp only [slices_IndexFunc_int_int_dom_in_1.l0]
      refine Ev.ifp (by omega) (Ev.ifp (by omega) (Ev.ifp (by omega) (Ev.bind hin ?_)))
      refine Ev.ifn (by rw [hw]; decide) ?_
      rw [wrap_nat (by omega)]; exact h1
def inT (t : List Int) (l : List Int) : Bool := rgt t && l.all (fun a => (way t a).isSome)
theorem in_ok (t : List Int) (hb : t.length ≤ 1000) (l : List Int) (hl : l.length ≤ 1000) : Ev (fun k => dom_in.f k t l) (inT t l) := by
  unfold dom_in.f inT
  refine Ev.bind (right_ok t hb) ?_
  cases hr : rgt t with
  | false => exact Ev.ifn (by decide) Ev.pure
  | true =>
    refine Ev.ifp rfl ?_
    obtain ⟨v, h1, h2⟩ := ixf_l0 t hb l.length 0 l hl (by omega) (by omega)
    refine Ev.bind (a := decide (v ≥ 0)) ?_ (Ev.pure.of_eq ?_)
    · unfold slices_ContainsFunc_int_int_dom_in_1.f slices_IndexFunc_int_int_dom_in_1.f
      exact Ev.bind h1 Ev.pure
    · rw [h2, List.drop_zero, Bool.true_and, List.not_any_eq_all_not]
      congr 1
      funext a
      cases way t a <;> rfl
/-- The first of a list that lies in another one; -2: none. -/
def fst2 (p q : List Int) : Int := (p.find? (fun x => decide (x ∈ q))).getD (-2)
def meetT (t : List Int) (a b : Int) : Int := if rgt t = true then match way t a, way t b with | some p, some q => fst2 p q | _, _ => -2 else -2
theorem meet_l0 (t : List Int) (hb : t.length ≤ 1000) (hr : rgt t = true) : ∀ (m : Nat) (p q : List Int) (a b : Int), p.length + q.length ≤ m → way t a = some p → way t b = some q → Ev (fun k => dom_Meet.l0 k t a b) (fst2 p q) := by
  intro m
  induction m with
  | zero =>
    intro p q a b hm hp hq
    have h := (way_form hp).2.2.2
    rcases h with ⟨_, e⟩ | ⟨_, _, e, _⟩ <;> rw [e] at hm <;> simp at hm
  | succ m ih =>
    intro p q a b hm hp hq
    obtain ⟨pa0, pa1, pa2, pa3⟩ := way_form hp
    obtain ⟨qa0, qa1, qa2, qa3⟩ := way_form hq
    have hpd : dep t a = (p.length : Int) - 1 := by unfold dep; rw [hp]
    have hqd : dep t b = (q.length : Int) - 1 := by unfold dep; rw [hq]
    refine Ev.succ ?_; simp only [dom_Meet.l0]
    by_cases hab : a = b
    · refine Ev.ifp hab (Ev.pure.of_eq ?_)
      subst hab
      rw [hp] at hq; cases hq
      rcases pa3 with ⟨_, e⟩ | ⟨_, _, e, _⟩ <;> rw [e] <;> simp [fst2]
    · refine Ev.ifn hab (Ev.bind (depth_ok t hb a) (Ev.bind (depth_ok t hb b) ?_))
      rw [hpd, hqd]
      by_cases hge : (p.length : Int) - 1 ≥ (q.length : Int) - 1
      · refine Ev.ifp hge (Ev.ifp (by omega) (Ev.ifp (by omega) ?_))
        rcases pa3 with ⟨ht, e⟩ | ⟨_, p', e, hp'⟩
        · rw [e] at hge
          rcases qa3 with ⟨ht', e'⟩ | ⟨_, q', e', hq'⟩
          · exact absurd (rgt_one hr pa0 pa1 qa0 qa1 ht ht') hab
          · exfalso
            have h := (way_form hq').2.2.2
            rw [e'] at hge
            rcases h with ⟨_, e''⟩ | ⟨_, _, e'', _⟩ <;> rw [e''] at hge <;> simp at hge <;> omega
        · have hnot : ¬ a ∈ q := by
            intro hm'
            rcases way_mem hq hm' with e'' | ⟨m', h7, h8⟩
            · exact hab e''
            · rw [hp] at h7; cases h7; omega
          rw [e] at hm ⊢
          refine (ih p' q (rd t a) b (by simp at hm; omega) hp' hq).of_eq ?_
          unfold fst2
          rw [List.find?_cons_of_neg (by simpa using hnot)]
      · refine Ev.ifn hge (Ev.ifp (by omega) (Ev.ifp (by omega) ?_))
        rcases qa3 with ⟨ht, e⟩ | ⟨_, q', e, hq'⟩
        · exfalso
          rw [e] at hge
          rcases pa3 with ⟨_, e'⟩ | ⟨_, _, e', _⟩ <;> rw [e'] at hge <;> simp at hge <;> omega
        · have hnot : ¬ b ∈ p := by
            intro hm'
            rcases way_mem hp hm' with e'' | ⟨m', h7, h8⟩
            · exact hab e''.symm
            · rw [hq] at h7; cases h7; omega
          rw [e] at hm ⊢
          refine (ih p q' a (rd t b) (by simp at hm; omega) hp hq').of_eq ?_
          unfold fst2
          congr 1
          have : ∀ l : List Int, (∀ x ∈ l, x ∈ p) → l.find? (fun x => decide (x ∈ q')) = l.find? (fun x => decide (x ∈ b :: q')) := by
            intro l
            induction l with
            | nil => intro _; rfl
            | cons x l ih2 =>
              intro hl
              have hx : x ≠ b := fun e => hnot (e ▸ hl x (List.mem_cons_self ..))
              have e3 : decide (x ∈ b :: q') = decide (x ∈ q') := by simp [hx]
              rw [List.find?_cons, List.find?_cons, e3, ih2 (fun y hy => hl y (List.mem_cons_of_mem _ hy))]
          exact this p (fun _ h => h)
theorem inT_two {t : List Int} {a b : Int} : inT t [a, b] = true ↔ rgt t = true ∧ (∃ p, way t a = some p) ∧ ∃ q, way t b = some q := by
  unfold inT
  simp [Option.isSome_iff_exists]
theorem inT_one {t : List Int} {a : Int} : inT t [a] = true ↔ rgt t = true ∧ ∃ p, way t a = some p := by
  unfold inT
  simp [Option.isSome_iff_exists]
theorem meet_ok (t : List Int) (hb : t.length ≤ 1000) (a b : Int) : Ev (fun k => dom_Meet.f k t a b) (meetT t a b) := by
  unfold dom_Meet.f meetT
  refine Ev.bind (in_ok t hb _ (by simp)) ?_
  by_cases h : inT t [a, b] = true
  · obtain ⟨hr, ⟨p, hp⟩, q, hq⟩ := inT_two.mp h
    refine Ev.ifp h ?_
    rw [if_pos hr, hp, hq]
    exact meet_l0 t hb hr _ p q a b (Nat.le_refl _) hp hq
  · refine Ev.ifn h (Ev.pure.of_eq ?_)
    by_cases hr : rgt t = true
    · rw [if_pos hr]
      cases hp : way t a with
      | none => rfl
      | some p => cases hq : way t b with
        | none => rfl
        | some q => exact absurd (inT_two.mpr ⟨hr, ⟨p, hp⟩, q, hq⟩) h
    · rw [if_neg hr]
def overT (t : List Int) (a b : Int) : Bool := inT t [a, b] && (meetT t a b == a)
theorem over_ok (t : List Int) (hb : t.length ≤ 1000) (a b : Int) : Ev (fun k => dom_Over.f k t a b) (overT t a b) := by
  unfold dom_Over.f overT
  refine Ev.bind (in_ok t hb _ (by simp)) ?_
  cases h : inT t [a, b] with
  | false => exact Ev.ifn (by decide) Ev.pure
  | true => exact Ev.ifp rfl (Ev.bind (meet_ok t hb a b) Ev.pure)
/-- Whose entry one is, from i on. -/
def kdT (t : List Int) (a : Int) (i : Nat) : List Int := ((List.range t.length).drop i).filterMap (fun b => if rd t ((b : Nat) : Int) = a then some ((b : Nat) : Int) else none)
theorem kdT_end (t : List Int) (a : Int) (i : Nat) (h : t.length ≤ i) : kdT t a i = [] := by unfold kdT; rw [List.drop_of_length_le (by simpa using h)]; rfl
theorem kdT_step (t : List Int) (a : Int) (i : Nat) (h : i < t.length) : kdT t a i = (if rd t (i : Int) = a then [(i : Int)] else []) ++ kdT t a (i + 1) := by
  unfold kdT
  rw [drop_getD (List.range t.length) i 0 (by simpa using h), List.filterMap_cons, List.getD_eq_getElem?_getD, List.getElem?_range h, Option.getD_some]
  split <;> rename_i e <;> split at e <;> simp_all
theorem kids_l0 (t : List Int) (hb : t.length ≤ 1000) (a : Int) (d : Nat) : ∀ (i : Nat) (o : List Int), t.length - i = d → i ≤ t.length → o.length ≤ i →
    Ev (fun k => dom_Kids.l0 k t a o t (t.length : Int) (i : Int)) (o ++ if inT t [a] = true then kdT t a i else []) := by
  induction d with
  | zero =>
    intro i o hd hi _
    refine Ev.succ ?_; simp only [dom_Kids.l0]
    refine Ev.ifn (by omega) (Ev.pure.of_eq ?_)
    rw [kdT_end _ _ _ (by omega)]; simp
  | succ d ih =>
    intro i o hd hi ho
    refine Ev.succ ?_; simp only [dom_Kids.l0]
    refine Ev.ifp (by omega) (Ev.ifp (by omega) (Ev.ifp (by omega) ?_))
    rw [kdT_step _ _ _ (show i < t.length by omega), wrap_nat (by omega)]
    by_cases e : rd t (i : Int) = a
    · refine Ev.ifp e (Ev.bind (in_ok t hb [a] (by simp)) ?_)
      rw [if_pos e]
      by_cases hin : inT t [a] = true
      · refine Ev.ifp hin (Ev.ifp (by omega) ?_)
        refine (ih (i + 1) (o ++ [(i : Int)]) (by omega) (by omega) (by simp; omega)).of_eq ?_
        rw [if_pos hin, if_pos hin]; simp
      · refine Ev.ifn hin ?_
        refine (ih (i + 1) o (by omega) (by omega) (by omega)).of_eq ?_
        rw [if_neg hin, if_neg hin]
    · refine Ev.ifn e ?_
      rw [if_neg e]
      exact (ih (i + 1) o (by omega) (by omega) (by omega)).of_eq (by simp)
def kidsT (t : List Int) (a : Int) : List Int := if inT t [a] = true then kdT t a 0 else []
theorem kids_ok (t : List Int) (hb : t.length ≤ 1000) (a : Int) : Ev (fun k => dom_Kids.f k t a) (kidsT t a) := by
  unfold dom_Kids.f
  exact (kids_l0 t hb a t.length 0 [] (by omega) (by omega) (by simp)).of_eq (by simp [kidsT])

section
variable {S : List (List Nat)} {r : Nat} {at_ par : Nat → Nat}
theorem Gd.rd_no (hD : Gd S r at_ par) {x : Nat} (hx : x < S.length) (h : ¬ Rch S (-1) r x) : rd (dtl S r) (x : Int) = -2 := by rw [rd_dtl hx, idv_no hD.lt h]
theorem Gd.rd_root (hD : Gd S r at_ par) : rd (dtl S r) (r : Int) = -1 := by rw [rd_dtl hD.lt, idv_root]
theorem Gd.rd_idm (hD : Gd S r at_ par) {x : Nat} (h : Rch S (-1) r x) (hr : x ≠ r) : ∃ z, Idm S r z x ∧ rd (dtl S r) (x : Int) = (z : Int) := by
  obtain ⟨z, hz⟩ := hD.idm x h hr
  exact ⟨z, hz, by rw [rd_dtl (h.lt hD.gr hD.lt), idv_idm hD.pl hr hz]⟩
theorem Gd.way_no (hD : Gd S r at_ par) {x : Nat} (hx : x < S.length) (h : ¬ Rch S (-1) r x) : way (dtl S r) (x : Int) = none := by
  cases hw : way (dtl S r) (x : Int) with
  | none => rfl
  | some l =>
    have h1 := (way_form hw).2.2.2
    rw [hD.rd_no hx h] at h1
    rcases h1 with ⟨h1, _⟩ | ⟨_, m, _, h2⟩
    · omega
    · rw [show way (dtl S r) (-2) = none from pth_out (.inl (by omega))] at h2; cases h2
theorem Gd.way_rch (hD : Gd S r at_ par) : ∀ (n x : Nat), at_ x ≤ n → Rch S (-1) r x → ∃ l, pth (dtl S r) (at_ x + 1) (x : Int) = some l ∧ ∀ a : Int, a ∈ l ↔ ∃ d : Nat, a = (d : Int) ∧ Dm S r d x := by
  intro n
  induction n with
  | zero =>
    intro x hn hx
    by_cases e : x = r
    · subst e
      refine ⟨[(x : Int)], pth_top (by omega) (by rw [dtl_length]; have := hD.lt; omega) hD.rd_root, fun a => ?_⟩
      rw [List.mem_singleton]
      exact ⟨fun h => ⟨x, h, dm_refl hx⟩, fun ⟨d, h1, h2⟩ => by rw [h1, dm_of_root h2]⟩
    · have := (hD.pl.par x hx e).2.2; omega
  | succ n ih =>
    intro x hn hx
    have hxl := hx.lt hD.gr hD.lt
    by_cases e : x = r
    · subst e
      refine ⟨[(x : Int)], pth_top (by omega) (by rw [dtl_length]; have := hD.lt; omega) hD.rd_root, fun a => ?_⟩
      rw [List.mem_singleton]
      exact ⟨fun h => ⟨x, h, dm_refl hx⟩, fun ⟨d, h1, h2⟩ => by rw [h1, dm_of_root h2]⟩
    · obtain ⟨z, hz, hrd⟩ := hD.rd_idm hx e
      have hzR := dm_rch hz.1
      have hzl : at_ z < at_ x := Nat.lt_of_le_of_ne (dm_le hD.pl _ _ (Nat.le_refl _) hz.1) (fun e2 => hz.2.1 (hD.pl.inj z x hzR hx e2))
      obtain ⟨m, h1, h2⟩ := ih z (by omega) hzR
      refine ⟨(x : Int) :: m, ?_, fun a => ?_⟩
      · rw [pth_step (by omega) (by rw [dtl_length]; omega) (by rw [hrd]; omega), hrd, pth_more (show at_ z + 1 ≤ at_ x by omega) h1]; rfl
      · rw [List.mem_cons, h2]
        constructor
        · rintro (h | ⟨d, h3, h4⟩)
          · exact ⟨x, h, dm_refl hx⟩
          · exact ⟨d, h3, dm_trans h4 hz.1⟩
        · rintro ⟨d, h3, h4⟩
          by_cases e2 : d = x
          · exact .inl (by rw [h3, e2])
          · exact .inr ⟨d, h3, hz.2.2 d h4 e2⟩
theorem Gd.way (hD : Gd S r at_ par) {x : Nat} (hx : Rch S (-1) r x) : ∃ l, way (dtl S r) (x : Int) = some l ∧ ∀ a : Int, a ∈ l ↔ ∃ d : Nat, a = (d : Int) ∧ Dm S r d x := by
  obtain ⟨l, h1, h2⟩ := hD.way_rch _ x (Nat.le_refl _) hx
  exact ⟨l, pth_more (by rw [dtl_length]; exact hD.atn x hx) h1, h2⟩
theorem Gd.way_iff (hD : Gd S r at_ par) {x : Nat} (hx : x < S.length) : (∃ l, GP.way (dtl S r) (x : Int) = some l) ↔ Rch S (-1) r x := by
  constructor
  · rintro ⟨l, h⟩
    refine Classical.byContradiction (fun hn => ?_)
    rw [hD.way_no hx hn] at h; cases h
  · intro h; obtain ⟨l, h1, _⟩ := hD.way h; exact ⟨l, h1⟩
theorem Gd.rgo (hD : Gd S r at_ par) (d : Nat) : ∀ i : Nat, i + d = S.length → rgo (dtl S r) d i (if r < i then 1 else 0) = true := by
  induction d with
  | zero =>
    intro i hi
    rw [if_pos (by have := hD.lt; omega)]; rfl
  | succ d ih =>
    intro i hi
    have h1 : ¬ (rd (dtl S r) (i : Int) ≠ -2 ∧ GP.way (dtl S r) (i : Int) = none) := by
      rintro ⟨h1, h2⟩
      by_cases hR : Rch S (-1) r i
      · obtain ⟨l, h3, _⟩ := hD.way hR; rw [h2] at h3; cases h3
      · exact h1 (hD.rd_no (by omega) hR)
    rw [GP.rgo, if_neg h1]
    have h2 := ih (i + 1) (by omega)
    by_cases e : i = r
    · rw [e, hD.rd_root, if_pos rfl, if_neg (Nat.lt_irrefl _)]
      rw [e, if_pos (Nat.lt_succ_self _)] at h2
      exact h2
    · have h3 : rd (dtl S r) (i : Int) ≠ -1 := by
        by_cases hR : Rch S (-1) r i
        · obtain ⟨z, _, h4⟩ := hD.rd_idm hR e; rw [h4]; omega
        · rw [hD.rd_no (by omega) hR]; omega
      rw [if_neg h3]
      by_cases hlt : r < i
      · rw [if_pos hlt]; rw [if_pos (by omega)] at h2; exact h2
      · rw [if_neg hlt]; rw [if_neg (by omega)] at h2; exact h2
theorem Gd.rgt (hD : Gd S r at_ par) : rgt (dtl S r) = true := by
  show GP.rgo (dtl S r) (dtl S r).length 0 0 = true
  rw [dtl_length]
  have := hD.rgo S.length 0 (by omega)
  simpa using this
theorem Gd.inT2 (hD : Gd S r at_ par) {a b : Nat} (ha : a < S.length) (hb : b < S.length) : inT (dtl S r) [(a : Int), (b : Int)] = true ↔ Rch S (-1) r a ∧ Rch S (-1) r b := by
  rw [inT_two, hD.way_iff ha, hD.way_iff hb]
  exact ⟨fun h => h.2, fun h => ⟨hD.rgt, h⟩⟩
theorem Gd.inT1 (hD : Gd S r at_ par) {a : Nat} (ha : a < S.length) : inT (dtl S r) [(a : Int)] = true ↔ Rch S (-1) r a := by
  rw [inT_one, hD.way_iff ha]
  exact ⟨fun h => h.2, fun h => ⟨hD.rgt, h⟩⟩
theorem fst2_way {t : List Int} {Q : List Int} : ∀ {l : List Int} {a : Int}, GP.way t a = some l → ∀ {c}, c ∈ l → c ∈ Q → fst2 l Q ∈ l ∧ fst2 l Q ∈ Q ∧ ∃ ml, GP.way t (fst2 l Q) = some ml ∧ c ∈ ml := by
  intro l
  induction l with
  | nil => intro a _ c hc; cases hc
  | cons x l ih =>
    intro a h c hc hcQ
    obtain ⟨_, _, _, h4⟩ := way_form h
    have hxa : x = a := by rcases h4 with ⟨_, e⟩ | ⟨_, m, e, _⟩ <;> injection e
    by_cases hx : x ∈ Q
    · have e : fst2 (x :: l) Q = x := by unfold fst2; rw [List.find?_cons, decide_eq_true hx]; rfl
      rw [e]
      exact ⟨List.mem_cons_self .., hx, x :: l, by rw [hxa] at h ⊢; exact h, hc⟩
    · have e : fst2 (x :: l) Q = fst2 l Q := by unfold fst2; rw [List.find?_cons, decide_eq_false hx]
      rw [e]
      have hcl : c ∈ l := by
        rcases List.mem_cons.mp hc with e2 | e2
        · subst e2; exact absurd hcQ hx
        · exact e2
      rcases h4 with ⟨_, e2⟩ | ⟨_, m, e2, h5⟩
      · injection e2 with _ e3; rw [e3] at hcl; cases hcl
      · injection e2 with _ e3
        subst e3
        obtain ⟨g1, g2, g3⟩ := ih h5 hcl hcQ
        exact ⟨List.mem_cons_of_mem _ g1, g2, g3⟩
/-- Where two meet: the nearest of those that dominate both. -/
theorem Gd.meet (hD : Gd S r at_ par) {a b : Nat} (ha : Rch S (-1) r a) (hb : Rch S (-1) r b) : ∃ m : Nat, meetT (dtl S r) (a : Int) (b : Int) = (m : Int) ∧ Dm S r m a ∧ Dm S r m b ∧ ∀ c, Dm S r c a → Dm S r c b → Dm S r c m := by
  obtain ⟨p, hp, hp2⟩ := hD.way ha
  obtain ⟨q, hq, hq2⟩ := hD.way hb
  have e : meetT (dtl S r) (a : Int) (b : Int) = fst2 p q := by unfold meetT; rw [if_pos hD.rgt, hp, hq]
  have hrp : (r : Int) ∈ p := (hp2 _).mpr ⟨r, rfl, dm_root ha⟩
  have hrq : (r : Int) ∈ q := (hq2 _).mpr ⟨r, rfl, dm_root hb⟩
  obtain ⟨g1, g2, _⟩ := fst2_way hp hrp hrq
  obtain ⟨m, hm, hma⟩ := (hp2 _).mp g1
  obtain ⟨m', hm', hmb⟩ := (hq2 _).mp g2
  have emm : m = m' := by omega
  subst emm
  refine ⟨m, by rw [e, hm], hma, hmb, fun c h1 h2 => ?_⟩
  obtain ⟨_, _, ml, g3, g4⟩ := fst2_way hp ((hp2 _).mpr ⟨c, rfl, h1⟩) ((hq2 _).mpr ⟨c, rfl, h2⟩)
  obtain ⟨l, h5, h6⟩ := hD.way (dm_rch hma)
  rw [hm, h5] at g3; cases g3
  obtain ⟨d, h7, h8⟩ := (h6 _).mp g4
  rw [show c = d by omega]; exact h8
theorem Gd.meet_no (hD : Gd S r at_ par) {a b : Nat} (ha : a < S.length) (hb : b < S.length) (h : ¬ (Rch S (-1) r a ∧ Rch S (-1) r b)) : meetT (dtl S r) (a : Int) (b : Int) = -2 := by
  unfold meetT
  rw [if_pos hD.rgt]
  cases hp : GP.way (dtl S r) (a : Int) with
  | none => rfl
  | some p => cases hq : GP.way (dtl S r) (b : Int) with
    | none => rfl
    | some q => exact absurd ⟨(hD.way_iff ha).mp ⟨p, hp⟩, (hD.way_iff hb).mp ⟨q, hq⟩⟩ h
theorem Gd.over (hD : Gd S r at_ par) {a b : Nat} (ha : a < S.length) (hb : b < S.length) : overT (dtl S r) (a : Int) (b : Int) = true ↔ Dm S r a b := by
  unfold overT
  rw [Bool.and_eq_true, hD.inT2 ha hb]
  constructor
  · rintro ⟨⟨h1, h2⟩, h3⟩
    obtain ⟨m, g1, g2, g3, _⟩ := hD.meet h1 h2
    have : m = a := by have := eq_of_beq h3; omega
    rw [← this]; exact g3
  · intro h
    have h1 := dm_rch h
    refine ⟨⟨h1, h.1⟩, ?_⟩
    obtain ⟨m, g1, g2, g3, g4⟩ := hD.meet h1 h.1
    have : a = m := dm_antisymm hD.pl (g4 a (dm_refl h1) h) g2
    rw [g1, this]; simp
theorem Gd.over_eq (hD : Gd S r at_ par) {a b : Nat} (ha : a < S.length) (hb : b < S.length) (v : Bool) (h : v = true ↔ Dm S r a b) : overT (dtl S r) (a : Int) (b : Int) = v := by
  have h2 := hD.over ha hb
  rw [← h] at h2
  cases v <;> cases h3 : overT (dtl S r) (a : Int) (b : Int) <;> simp_all
end
end Go.Proofs.Ytoekeknfeinphaa.GP
namespace Go.Proofs.Ytoekeknfeinphaa.G
open Go.Proofs.YtoekeknfeinphaaH
open Go.RowKit Go.Proofs.YtoekeknfeinphaaW.PrintWords Go.Proofs.YtoekeknfeinphaaW.PrintLast Go.Proofs.YtoekeknfeinphaaW.PrintMore
attribute [local go_sem] max2_int min2_int max_two min_two max_three min_three max_four min_four   -- for this text's walks alone
set_option linter.unusedVariables false
set_option linter.unusedSimpArgs false

/-! ### lockstepref06_Reach: function 14 -/
mutual
def lockstepref06_Reach.l0 : Nat → Int → List Bool → Int → List (List Int) → List (List Int) → Option (List Bool)
 | 0, _, _, _, _, _ => none
 | k + 1, x2, x7, x8, x421000, x421001 => if x8 < (x7.length : Int) then (lockstepref06_Reach.l1 k x2 x7 x8 0 x421000 x421001) else (some x7)
def lockstepref06_Reach.l1 : Nat → Int → List Bool → Int → Int → List (List Int) → List (List Int) → Option (List Bool)
 | 0, _, _, _, _, _, _ => none
 | k + 1, x2, x7, x8, x9, x421000, x421001 => if x9 < (x7.length : Int) then (lockstepref06_Reach.l2 k x2 x7 x8 x9 0 x421000 x421001) else (lockstepref06_Reach.l0 k x2 x7 (wrap64 (x8 + 1)) x421000 x421001)
def lockstepref06_Reach.l2 : Nat → Int → List Bool → Int → Int → Int → List (List Int) → List (List Int) → Option (List Bool)
 | 0, _, _, _, _, _, _, _ => none
 | k + 1, x2, x7, x8, x9, x10, x421000, x421001 => if 0 ≤ x9 then (if x9 < (x7.length : Int) then (if rdOf false x7 x9 = true then (if x9 < (x421000.length : Int) then (lockstepref06_Reach.j3 k x2 x7 x8 x9 x10 (decide (x10 < ((rd_L1 x421000 x9).length : Int))) x421000 x421001) else (none)) else (lockstepref06_Reach.j3 k x2 x7 x8 x9 x10 false x421000 x421001)) else (none)) else (none)
def lockstepref06_Reach.j3 : Nat → Int → List Bool → Int → Int → Int → Bool → List (List Int) → List (List Int) → Option (List Bool)
 | 0, _, _, _, _, _, _, _, _ => none
 | k + 1, x2, x7, x8, x9, x10, x47, x421000, x421001 => if x47 = true then (if 0 ≤ x9 then (if x9 < (x421000.length : Int) then (if 0 ≤ x10 then (if x10 < ((rd_L1 x421000 x9).length : Int) then (if (rd (rd_L1 x421000 x9) x10) = x2 then (lockstepref06_Reach.l2 k x2 x7 x8 x9 (wrap64 (x10 + 1)) x421000 x421001) else (if 0 ≤ (rd (rd_L1 x421000 x9) x10) then (if (rd (rd_L1 x421000 x9) x10) < (x7.length : Int) then (lockstepref06_Reach.l2 k x2 (x7.set ((rd (rd_L1 x421000 x9) x10) : Int).toNat true) x8 x9 (wrap64 (x10 + 1)) x421000 x421001) else (none)) else (none))) else (none)) else (none)) else (none)) else (none)) else (lockstepref06_Reach.l1 k x2 x7 x8 (wrap64 (x9 + 1)) x421000 x421001)
end
def lockstepref06_Reach.f (k : Nat) (l0_0 : List (List Int)) (l0_1 : List (List Int)) (a1 : Int) (a2 : Int) : Option (List Bool) := if 0 ≤ (l0_0.length : Int) then (if ((l0_0.length : Int) : Int).toNat ≤ 281474976710656 then ((some (List.replicate ((l0_0.length : Int) : Int).toNat false : List Bool)).bind fun y421 => (if a1 = a2 then (some y421) else (if 0 ≤ a1 then (if a1 < (y421.length : Int) then (lockstepref06_Reach.l0 k a2 (y421.set (a1 : Int).toNat true) 0 l0_0 l0_1) else (none)) else (none)))) else (none)) else (none)
theorem lockstepref06_Reach.mono_l : ∀ k, (∀ y0 y1 y2 y3 y4, LeO (lockstepref06_Reach.l0 k y0 y1 y2 y3 y4) (lockstepref06_Reach.l0 (k + 1) y0 y1 y2 y3 y4)) ∧ (∀ y0 y1 y2 y3 y4 y5, LeO (lockstepref06_Reach.l1 k y0 y1 y2 y3 y4 y5) (lockstepref06_Reach.l1 (k + 1) y0 y1 y2 y3 y4 y5)) ∧ (∀ y0 y1 y2 y3 y4 y5 y6, LeO (lockstepref06_Reach.l2 k y0 y1 y2 y3 y4 y5 y6) (lockstepref06_Reach.l2 (k + 1) y0 y1 y2 y3 y4 y5 y6)) ∧ (∀ y0 y1 y2 y3 y4 y5 y6 y7, LeO (lockstepref06_Reach.j3 k y0 y1 y2 y3 y4 y5 y6 y7) (lockstepref06_Reach.j3 (k + 1) y0 y1 y2 y3 y4 y5 y6 y7))
 | 0 => ⟨fun _ _ _ _ _ r h => by simp [lockstepref06_Reach.l0] at h, fun _ _ _ _ _ _ r h => by simp [lockstepref06_Reach.l1] at h, fun _ _ _ _ _ _ _ r h => by simp [lockstepref06_Reach.l2] at h, fun _ _ _ _ _ _ _ _ r h => by simp [lockstepref06_Reach.j3] at h⟩
 | k + 1 => by
  obtain ⟨ih0, ih1, ih2, ih3⟩ := lockstepref06_Reach.mono_l k
  refine ⟨?_, ?_, ?_, ?_⟩
  ·intro y0 y1 y2 y3 y4
   unfold lockstepref06_Reach.l0
   repeat' first
   | (with_reducible exact ih0 _ _ _ _ _)
   | (with_reducible exact ih1 _ _ _ _ _ _)
   | (with_reducible exact ih2 _ _ _ _ _ _ _)
   | (with_reducible exact ih3 _ _ _ _ _ _ _ _)
   | (with_reducible exact LeO.refl _)
   | (with_reducible exact LeO.none _)
   | (with_reducible refine LeO.ite ?_ ?_)
   | (with_reducible refine LeO.bind ?_ (fun _ => ?_))
   | exact ih0 _ _ _ _ _
   | exact ih1 _ _ _ _ _ _
   | exact ih2 _ _ _ _ _ _ _
   | exact ih3 _ _ _ _ _ _ _ _
   | exact LeO.none _
   | refine LeO.ite ?_ ?_
   | refine LeO.bind ?_ (fun _ => ?_)
  ·intro y0 y1 y2 y3 y4 y5
   unfold lockstepref06_Reach.l1
   repeat' first
   | (with_reducible exact ih0 _ _ _ _ _)
   | (with_reducible exact ih1 _ _ _ _ _ _)
   | (with_reducible exact ih2 _ _ _ _ _ _ _)
   | (with_reducible exact ih3 _ _ _ _ _ _ _ _)
   | (with_reducible exact LeO.refl _)
   | (with_reducible exact LeO.none _)
   | (with_reducible refine LeO.ite ?_ ?_)
   | (with_reducible refine LeO.bind ?_ (fun _ => ?_))
   | exact ih0 _ _ _ _ _
   | exact ih1 _ _ _ _ _ _
   | exact ih2 _ _ _ _ _ _ _
   | exact ih3 _ _ _ _ _ _ _ _
   | exact LeO.none _
   | refine LeO.ite ?_ ?_
   | refine LeO.bind ?_ (fun _ => ?_)
  ·intro y0 y1 y2 y3 y4 y5 y6
   unfold lockstepref06_Reach.l2
   repeat' first
   | (with_reducible exact ih0 _ _ _ _ _)
   | (with_reducible exact ih1 _ _ _ _ _ _)
   | (with_reducible exact ih2 _ _ _ _ _ _ _)
   | (with_reducible exact ih3 _ _ _ _ _ _ _ _)
   | (with_reducible exact LeO.refl _)
   | (with_reducible exact LeO.none _)
   | (with_reducible refine LeO.ite ?_ ?_)
   | (with_reducible refine LeO.bind ?_ (fun _ => ?_))
   | exact ih0 _ _ _ _ _
   | exact ih1 _ _ _ _ _ _
   | exact ih2 _ _ _ _ _ _ _
   | exact ih3 _ _ _ _ _ _ _ _
   | exact LeO.none _
   | refine LeO.ite ?_ ?_
   | refine LeO.bind ?_ (fun _ => ?_)
  ·intro y0 y1 y2 y3 y4 y5 y6 y7
   unfold lockstepref06_Reach.j3
   repeat' first
   | (with_reducible exact ih0 _ _ _ _ _)
   | (with_reducible exact ih1 _ _ _ _ _ _)
   | (with_reducible exact ih2 _ _ _ _ _ _ _)
   | (with_reducible exact ih3 _ _ _ _ _ _ _ _)
   | (with_reducible exact LeO.refl _)
   | (with_reducible exact LeO.none _)
   | (with_reducible refine LeO.ite ?_ ?_)
   | (with_reducible refine LeO.bind ?_ (fun _ => ?_))
   | exact ih0 _ _ _ _ _
   | exact ih1 _ _ _ _ _ _
   | exact ih2 _ _ _ _ _ _ _
   | exact ih3 _ _ _ _ _ _ _ _
   | exact LeO.none _
   | refine LeO.ite ?_ ?_
   | refine LeO.bind ?_ (fun _ => ?_)
theorem lockstepref06_Reach.mono : ∀ a0 a1 a2 a3 k, LeO (lockstepref06_Reach.f k a0 a1 a2 a3) (lockstepref06_Reach.f (k + 1) a0 a1 a2 a3) := by
 intro a0 a1 a2 a3 k
 obtain ⟨ih0, ih1, ih2, ih3⟩ := lockstepref06_Reach.mono_l k
 unfold lockstepref06_Reach.f
 repeat' first
  | (with_reducible exact ih0 _ _ _ _ _)
  | (with_reducible exact ih1 _ _ _ _ _ _)
  | (with_reducible exact ih2 _ _ _ _ _ _ _)
  | (with_reducible exact ih3 _ _ _ _ _ _ _ _)
  | (with_reducible exact LeO.refl _)
  | (with_reducible exact LeO.none _)
  | (with_reducible refine LeO.ite ?_ ?_)
  | (with_reducible refine LeO.bind ?_ (fun _ => ?_))
  | exact ih0 _ _ _ _ _
  | exact ih1 _ _ _ _ _ _
  | exact ih2 _ _ _ _ _ _ _
  | exact ih3 _ _ _ _ _ _ _ _
  | exact LeO.none _
  | refine LeO.ite ?_ ?_
  | refine LeO.bind ?_ (fun _ => ?_)
set_option maxHeartbeats 8000000 in
set_option maxRecDepth 100000 in
theorem lockstepref06_Reach.calls (k : Nat) (A0_0 : Option Addr) (c0_0 : Nat) (l0_0 : List (List Int)) (A0_1 : Option Addr) (c0_1 : Nat) (l0_1 : List (List Int)) (a1 : Int) (a2 : Int) (r : List Bool) (w : World) (hr0_0 : Kd.C (Kd.slice 3 (Kd.int .i64)) w A0_0 l0_0.length l0_0) (hc0_0 : l0_0.length ≤ c0_0) (hr0_1 : Kd.C (Kd.slice 3 (Kd.int .i64)) w A0_1 l0_1.length l0_1) (hc0_1 : l0_1.length ≤ c0_1) (h : lockstepref06_Reach.f k l0_0 l0_1 a1 a2 = some r) :
 Calls Try.prog 14 #[.agg #[.slice A0_0 l0_0.length c0_0, .slice A0_1 l0_1.length c0_1], .int .i64 a1, .int .i64 a2] w fun e w' => ∃ v0_ : Value, e = .returned (v0_) ∧ Kd.R Kd.bool 4 w' w.heap.size (fun _ => True) v0_ r ∧ Below w.heap.size w w' := by
 have hu26 := Try.underlying26
 have HR0_0 := Aside0.mk hr0_0
 have HC0_0 := Aside0.mk hc0_0
 clear hr0_0 hc0_0
 have HR0_1 := Aside0.mk hr0_1
 have HC0_1 := Aside0.mk hc0_1
 clear hr0_1 hc0_1
 have HB := Aside0.mk (Below.refl w.heap.size w)
 have H : (if 0 ≤ (l0_0.length : Int) then (if ((l0_0.length : Int) : Int).toNat ≤ 281474976710656 then ((some (List.replicate ((l0_0.length : Int) : Int).toNat false : List Bool)).bind fun y421 => (if a1 = a2 then (some y421) else (if 0 ≤ a1 then (if a1 < (y421.length : Int) then (lockstepref06_Reach.l0 k a2 (y421.set (a1 : Int).toNat true) 0 l0_0 l0_1) else (none)) else (none)))) else (none)) else (none)) = some r := h
 clear h
 by_cases c4 : 0 ≤ (l0_0.length : Int)
 ·rw [if_pos c4] at H
  have c4b0 := eq_true c4
  have c4b1 : decide (0 ≤ (l0_0.length : Int)) = true := decide_eq_true c4
  clear c4
  by_cases c5 : ((l0_0.length : Int) : Int).toNat ≤ 281474976710656
  ·rw [if_pos c5] at H
   have c5b0 := eq_true c5
   have c5b1 : decide (((l0_0.length : Int) : Int).toNat ≤ 281474976710656) = true := decide_eq_true c5
   clear c5
   obtain ⟨y421, hy421⟩ : ∃ y_ : List Bool, y_ = (List.replicate ((l0_0.length : Int) : Int).toNat false) := ⟨_, rfl⟩
   replace H : (if a1 = a2 then (some y421) else (if 0 ≤ a1 then (if a1 < (y421.length : Int) then (lockstepref06_Reach.l0 k a2 (y421.set (a1 : Int).toNat true) 0 l0_0 l0_1) else (none)) else (none))) = some r := by first | (rw [hy421]; with_reducible exact H) | (have H2_ := (Option.bind_some _ _).symm.trans H; rw [hy421]; with_reducible exact H2_) | (have H2_ := (Option.bind_some _ _).symm.trans H; with_reducible exact H2_) | with_reducible exact H | (rw [hy421]; exact H) | exact H
   have Ny421 := Aside0.mk hy421
   clear hy421
   by_cases c6 : a1 = a2
   ·rw [if_pos c6] at H
    have c6b0 : (a1 == a2) = true := beq_iff_eq.mpr c6
    have c6b1 : (a1 != a2) = false := bne_eq_false_iff_eq.mpr c6
    clear c6
    obtain rfl := Option.some.inj H
    go_enter Try.func14, Try.ntmps14
    go_wp2_with (first | ((with_reducible refine gate_dst (N := 3) rfl ?_); (try (refine gate_guard (by rfl) ?_; dsimp only)); refine box_event ?hg (N := 3) ?hd (cs := #[.slice A0_0 l0_0.length c0_0, .slice A0_1 l0_1.length c0_1]) (t := 26) ?hr ?_; (case hd => rfl); (case hg => rfl); (case hr => first | (go_simp; done) | (go_simp; rfl)); intro gb420 hg w7 hbox hb; have n0_ := Aside0.mk (below_step (B_) hb); have n1_ := Aside0.mk (hbox); have n2_ := Aside0.mk ((by rw [hg]; exact (below_size (B_)) : w.heap.size ≤ gb420)); have n3_ := Aside0.mk ((by rw [hg]; exact (below_size (B_)) : w.heap.size ≤ gb420)); clear HB; have HB := n0_; have BK420 := n1_; have GW420 := n2_; have GE420 := n3_; clear n0_ n1_ n2_ n3_; clear hb hbox hg; have hcz8_0 : w7.cell? ⟨gb420, 0, none⟩ = some (.slice A0_0 l0_0.length c0_0) := (blk_cell BK420.out 0).trans rfl; have hcz8_1 : w7.cell? ⟨gb420, 1, none⟩ = some (.slice A0_1 l0_1.length c0_1) := (blk_cell BK420.out 1).trans rfl; have hfz8_0 := blk_frozen BK420.out 0; have hfz8_1 := blk_frozen BK420.out 1) | ((with_reducible refine gate_dst (N := 14) rfl ?_); (try (refine gate_guard (by rfl) ?_; dsimp only)); refine Kd.R_make Kd.bool _ 4 rfl (N := 14) rfl 33 _ _ rfl (l0_0.length : Int) rfl rfl Try.underlying33 (.bool false) 1 info4 rfl (by decide) (by omega) false (ok := fun _ => True) (okp := fun _ => True) rfl (fun _ hk => hk) trivial (D_) (Nat.le_trans (Nat.mul_le_mul_right _ (D_ : (l0_0.length : Int).toNat ≤ 281474976710656)) (by omega)) (Below.refl _ _) (Nat.le_refl _) ?_; intro v422 w9 ho10 hb hg_ hnew_; clear hg_ hnew_; (first | rw [← Ny421.out] at ho10 | (simp only [Int.reduceToNat] at ho10; rw [← Ny421.out] at ho10)); have n0_ := Aside0.mk (Kd.R_lower ho10 (below_size (B1_))); have n1_ := Aside0.mk (blk_below (g := gb420) (o := .cells #[.slice A0_0 l0_0.length c0_0, .slice A0_1 l0_1.length c0_1] 26 (0, 0)) (by exact KX_ BK420.out) hb); have n2_ := Aside0.mk (below_step (B1_) hb); clear BK420; clear HB; have HO423 := n0_; have BK420 := n1_; have HB := n2_; clear n0_ n1_ n2_; clear hb ho10))
    go_ret
    exact ⟨_, by first | rfl | (simp [errW_none, errW_some] <;> rfl) | (simp [*, errW_none, errW_some] <;> rfl), by exact RX_ HO423.out, B1_⟩
   rw [if_neg c6] at H
   have c6b0 : (a1 == a2) = false := beq_eq_false_iff_ne.mpr c6
   have c6b1 : (a1 != a2) = true := bne_iff_ne.mpr c6
   by_cases c11 : 0 ≤ a1
   ·rw [if_pos c11] at H
    have c11b0 : decide (0 ≤ a1) = true := decide_eq_true c11
    clear c11
    by_cases c12 : a1 < (y421.length : Int)
    ·rw [if_pos c12] at H
     have c12b0 : decide (a1 < (y421.length : Int)) = true := decide_eq_true c12
     clear c12
     obtain ⟨y424, hy424⟩ : ∃ y_ : List Bool, y_ = (y421.set (a1 : Int).toNat true) := ⟨_, rfl⟩
     replace H : (lockstepref06_Reach.l0 k a2 y424 0 l0_0 l0_1) = some r := by first | (rw [hy424]; with_reducible exact H) | (have H2_ := (Option.bind_some _ _).symm.trans H; rw [hy424]; with_reducible exact H2_) | (have H2_ := (Option.bind_some _ _).symm.trans H; with_reducible exact H2_) | with_reducible exact H | (rw [hy424]; exact H) | exact H
     have Ny424 := Aside0.mk hy424
     clear hy424
     have H' := Aside0.mk H
     clear H
     go_enter Try.func14, Try.ntmps14
     go_wp2_with (first | ((with_reducible refine gate_dst (N := 3) rfl ?_); (try (refine gate_guard (by rfl) ?_; dsimp only)); refine box_event ?hg (N := 3) ?hd (cs := #[.slice A0_0 l0_0.length c0_0, .slice A0_1 l0_1.length c0_1]) (t := 26) ?hr ?_; (case hd => rfl); (case hg => rfl); (case hr => first | (go_simp; done) | (go_simp; rfl)); intro gb420 hg w14 hbox hb; have n0_ := Aside0.mk (below_step (B_) hb); have n1_ := Aside0.mk (hbox); have n2_ := Aside0.mk ((by rw [hg]; exact (below_size (B_)) : w.heap.size ≤ gb420)); have n3_ := Aside0.mk ((by rw [hg]; exact (below_size (B_)) : w.heap.size ≤ gb420)); clear HB; have HB := n0_; have BK420 := n1_; have GW420 := n2_; have GE420 := n3_; clear n0_ n1_ n2_ n3_; clear hb hbox hg; have hcz15_0 : w14.cell? ⟨gb420, 0, none⟩ = some (.slice A0_0 l0_0.length c0_0) := (blk_cell BK420.out 0).trans rfl; have hcz15_1 : w14.cell? ⟨gb420, 1, none⟩ = some (.slice A0_1 l0_1.length c0_1) := (blk_cell BK420.out 1).trans rfl; have hfz15_0 := blk_frozen BK420.out 0; have hfz15_1 := blk_frozen BK420.out 1) | ((with_reducible refine gate_dst (N := 14) rfl ?_); (try (refine gate_guard (by rfl) ?_; dsimp only)); refine Kd.R_make Kd.bool _ 4 rfl (N := 14) rfl 33 _ _ rfl (l0_0.length : Int) rfl rfl Try.underlying33 (.bool false) 1 info4 rfl (by decide) (by omega) false (ok := fun _ => True) (okp := fun _ => True) rfl (fun _ hk => hk) trivial (D_) (Nat.le_trans (Nat.mul_le_mul_right _ (D_ : (l0_0.length : Int).toNat ≤ 281474976710656)) (by omega)) (Below.refl _ _) (Nat.le_refl _) ?_; intro v422 w16 ho17 hb hg_ hnew_; clear hg_ hnew_; (first | rw [← Ny421.out] at ho17 | (simp only [Int.reduceToNat] at ho17; rw [← Ny421.out] at ho17)); have n0_ := Aside0.mk (Kd.R_lower ho17 (below_size (B1_))); have n1_ := Aside0.mk (blk_below (g := gb420) (o := .cells #[.slice A0_0 l0_0.length c0_0, .slice A0_1 l0_1.length c0_1] 26 (0, 0)) (by exact KX_ BK420.out) hb); have n2_ := Aside0.mk (below_step (B1_) hb); clear BK420; clear HB; have HO423 := n0_; have BK420 := n1_; have HB := n2_; clear n0_ n1_ n2_; clear hb ho17; have p13 : 0 ≤ (a1 : Int) := D_; have q13 : (a1 : Int) < ((y421.length : Int) : Int) := D_; obtain ⟨go13, co13, eo13, gb13, gl13, cl13, HG13⟩ := Kd.R_form HO423.out (by omega); (first | cases eo13 | (injection eo13 with ea_ en_ ec_; (first | subst ea_ | (injection ea_ with ea_; subst ea_)); subst ec_; clear en_)); have GB13 := Aside0.mk gb13; have GG13 := Aside0.mk HG13; clear gb13 gl13 HG13; obtain ⟨hx13_0, hf13_0⟩ := Kd.R_celln false HO423.out (a1 : Int) p13 q13; replace p13 := eq_true p13; replace q13 := eq_true q13; obtain ⟨hy18_, hz18_⟩ := Kd.R_celln false HO423.out (a1 : Int) (D_) (D_); have HP18 := Kd.R_putg HO423.out (a1 : Int) true) | ((with_reducible refine gate_store (t := 4) (p := 21) rfl ?_); refine store_event (t := 4) (p := 21) (v := ?vo_w19) (w1 := (w16.setCell ⟨go13, (a1 : Int).toNat, none⟩ (.bool true))) ?hg ?ho ?hn ?hr ?_; (case ho => rfl); (case hg => rfl); (case hn => rfl); (case hr => first | (go_simp; done) | (go_simp; rfl)); intro w19 hw; have hg : w16.grownBy w19 (some go13) := (by rw [hw]; exact HP18.2); have hp_ : Kd.R Kd.bool 4 w19 w.heap.size (fun _ => True) (.slice (some ⟨go13, 0, none⟩) y421.length co13) y424 := (by rw [hw, Ny424.out]; exact HP18.1); clear HP18; have n0_ := Aside0.mk (blk_grown (g := gb420) (o := .cells #[.slice A0_0 l0_0.length c0_0, .slice A0_1 l0_1.length c0_1] 26 (0, 0)) (by exact KX_ BK420.out) hg (Kd.R_ne HO423.out BK420.out (by decide))); have n1_ := Aside0.mk (hp_); have n2_ := Aside0.mk ((by rw [hw]; exact below_set (HB.out) GB13.out : Below w.heap.size w w19)); clear BK420; clear HO423; clear HB; have BK420 := n0_; have HO423 := n1_; have HB := n2_; clear n0_ n1_ n2_; clear hg hw hp_))
     go_loopg [8] k (fun kq v8 w' => ∃ (x7_1 : List Bool) (x8_1 : Int), v8 = .int .i64 x8_1 ∧ Aside0 (lockstepref06_Reach.l0 kq a2 x7_1 x8_1 l0_0 l0_1 = some r) ∧ Aside0 (kq ≤ k) ∧ Aside0 (Kd.R Kd.bool 4 w' w.heap.size (fun _ => True) (.slice (some ⟨go13, 0, none⟩) y421.length co13) x7_1) ∧ Aside0 (w'.heap[gb420]? = some (.cells #[(.slice A0_0 l0_0.length c0_0), (.slice A0_1 l0_1.length c0_1)] 26 (0, 0))) ∧ Aside0 (Below w.heap.size w w'))
     case atStart => exact ⟨(y424), (0), (by first | rfl | (simp; done) | (simp [*]; done)), H', ⟨Nat.le_refl _⟩, ⟨by exact RM_ HO423.out⟩, ⟨by exact KX_ BK420.out⟩, ⟨B1_⟩⟩
     case round =>
      clear H'
      try clear c4b0
      try clear c4b1
      try clear c5b0
      try clear c5b1
      try clear c6
      try clear c6b0
      try clear c6b1
      try clear c11b0
      try clear c12b0
      try clear p13
      try clear q13
      try clear hcz15_0
      try clear hcz15_1
      try clear hfz15_0
      try clear hfz15_1
      try clear hx13_0
      try clear p13
      try clear q13
      obtain ⟨x7_1, x8_1, rfl, HA, HK1, HO_7, BK420, HB⟩ := hrel
      have hl7_1 := (Kd.R_reads' HO_7.out).1
      rw [hl7_1] at HO_7
      (try simp only [hl7_1])
      (try simp only [hl7_1] at BK420)
      cases gk with
      | zero => exact absurd HA.out (by simp [lockstepref06_Reach.l0])
      | succ k1 =>
       have H := HA.out
       clear HA
       simp only [lockstepref06_Reach.l0] at H
       by_cases c20 : x8_1 < (x7_1.length : Int)
       ·rw [if_pos c20] at H
        have c20b0 : decide (x8_1 < (x7_1.length : Int)) = true := decide_eq_true c20
        clear c20
        have H' := Aside0.mk H
        clear H
        go_wp2
        go_loopg [9] k1 (fun kq v9 w' => ∃ (x7_2 : List Bool) (x9_2 : Int), v9 = .int .i64 x9_2 ∧ Aside0 (lockstepref06_Reach.l1 kq a2 x7_2 x8_1 x9_2 l0_0 l0_1 = some r) ∧ Aside0 (kq ≤ k1) ∧ Aside0 (Kd.R Kd.bool 4 w' w.heap.size (fun _ => True) (.slice (some ⟨go13, 0, none⟩) x7_1.length co13) x7_2) ∧ Aside0 (w'.heap[gb420]? = some (.cells #[(.slice A0_0 l0_0.length c0_0), (.slice A0_1 l0_1.length c0_1)] 26 (0, 0))) ∧ Aside0 (Below w.heap.size w w'))
        case atStart => exact ⟨(x7_1), (0), (by first | rfl | (simp; done) | (simp [*]; done)), H', ⟨Nat.le_refl _⟩, ⟨by (try simp only [hl7_1]); exact RM_ HO_7.out⟩, ⟨by (try simp only [hl7_1]); exact KX_ BK420.out⟩, ⟨B1_⟩⟩
        case round =>
         clear H'
         try clear c20b0
         obtain ⟨x7_2, x9_2, rfl, HA, HK2, HO_7, BK420, HB⟩ := hrel
         have hl7_2 := (Kd.R_reads' HO_7.out).1
         rw [hl7_2] at HO_7
         (try simp only [hl7_2])
         (try simp only [hl7_2] at BK420)
         cases gk with
         | zero => exact absurd HA.out (by simp [lockstepref06_Reach.l1])
         | succ k2 =>
          have H := HA.out
          clear HA
          simp only [lockstepref06_Reach.l1] at H
          by_cases c21 : x9_2 < (x7_2.length : Int)
          ·rw [if_pos c21] at H
           have c21b0 : decide (x9_2 < (x7_2.length : Int)) = true := decide_eq_true c21
           clear c21
           have H' := Aside0.mk H
           clear H
           go_wp2
           go_loopg [10] k2 (fun kq v10 w' => ∃ (x7_3 : List Bool) (x10_3 : Int), v10 = .int .i64 x10_3 ∧ Aside0 (lockstepref06_Reach.l2 kq a2 x7_3 x8_1 x9_2 x10_3 l0_0 l0_1 = some r) ∧ Aside0 (kq ≤ k2) ∧ Aside0 (Kd.R Kd.bool 4 w' w.heap.size (fun _ => True) (.slice (some ⟨go13, 0, none⟩) x7_2.length co13) x7_3) ∧ Aside0 (w'.heap[gb420]? = some (.cells #[(.slice A0_0 l0_0.length c0_0), (.slice A0_1 l0_1.length c0_1)] 26 (0, 0))) ∧ Aside0 (Below w.heap.size w w'))
           case atStart => exact ⟨(x7_2), (0), (by first | rfl | (simp; done) | (simp [*]; done)), H', ⟨Nat.le_refl _⟩, ⟨by (try simp only [hl7_1]); (try simp only [hl7_2]); exact RM_ HO_7.out⟩, ⟨by (try simp only [hl7_1]); (try simp only [hl7_2]); exact KX_ BK420.out⟩, ⟨B1_⟩⟩
           case round =>
            clear H'
            try clear c21b0
            obtain ⟨x7_3, x10_3, rfl, HA, HK3, HO_7, BK420, HB⟩ := hrel
            have hl7_3 := (Kd.R_reads' HO_7.out).1
            rw [hl7_3] at HO_7
            (try simp only [hl7_3])
            (try simp only [hl7_3] at BK420)
            cases gk with
            | zero => exact absurd HA.out (by simp [lockstepref06_Reach.l2])
            | succ k3 =>
             have H := HA.out
             clear HA
             simp only [lockstepref06_Reach.l2] at H
             have HC22 := Aside0.mk H
             clear H
             go_upto_region 12 with (fail)
             go_cut [47] (fun v47 wc => ∃ (kq : Nat) (x47_21 : Bool), v47 = .bool x47_21 ∧ Aside0 (lockstepref06_Reach.j3 kq a2 x7_3 x8_1 x9_2 x10_3 x47_21 l0_0 l0_1 = some r) ∧ Aside0 (kq ≤ k3) ∧ Aside0 (Kd.R Kd.bool 4 wc w.heap.size (fun _ => True) (.slice (some ⟨go13, 0, none⟩) x7_3.length co13) x7_3) ∧ Aside0 (wc.heap[gb420]? = some (.cells #[(.slice A0_0 l0_0.length c0_0), (.slice A0_1 l0_1.length c0_1)] 26 (0, 0))) ∧ Aside0 (Below w.heap.size w wc))
             case first =>
              have H := HC22.out
              clear HC22
              by_cases c23 : 0 ≤ x9_2
              ·rw [if_pos c23] at H
               have c23b0 : decide (0 ≤ x9_2) = true := decide_eq_true c23
               clear c23
               (first | rw [c23b0] | (simp only [i64_w, i32_w]; rw [c23b0]) | skip)
               by_cases c24 : x9_2 < (x7_3.length : Int)
               ·rw [if_pos c24] at H
                have c24b0 : decide (x9_2 < (x7_3.length : Int)) = true := decide_eq_true c24
                clear c24
                obtain ⟨bq25, hbq25⟩ : ∃ b_ : Bool, b_ = (rdOf false x7_3 x9_2) := ⟨_, rfl⟩
                replace H : (if bq25 = true then (if x9_2 < (l0_0.length : Int) then (lockstepref06_Reach.j3 k3 a2 x7_3 x8_1 x9_2 x10_3 (decide (x10_3 < ((rd_L1 l0_0 x9_2).length : Int))) l0_0 l0_1) else (none)) else (lockstepref06_Reach.j3 k3 a2 x7_3 x8_1 x9_2 x10_3 false l0_0 l0_1)) = some r := by rw [← hbq25] at H; exact H
                have Nbq25 := Aside0.mk hbq25
                clear hbq25
                by_cases c26 : bq25 = true
                ·subst c26
                 have H1 : (if x9_2 < (l0_0.length : Int) then (lockstepref06_Reach.j3 k3 a2 x7_3 x8_1 x9_2 x10_3 (decide (x10_3 < ((rd_L1 l0_0 x9_2).length : Int))) l0_0 l0_1) else (none)) = some r := by rw [if_pos rfl] at H; exact H
                 clear H
                 have H := H1
                 clear H1
                 by_cases c27 : x9_2 < (l0_0.length : Int)
                 ·rw [if_pos c27] at H
                  have c27b0 : decide (x9_2 < (l0_0.length : Int)) = true := decide_eq_true c27
                  clear c27
                  have H' := Aside0.mk H
                  clear H
                  have p425 : 0 ≤ (x9_2 : Int) := D_
                  have q425 : x9_2 < (x7_3.length : Int) := D_
                  obtain ⟨ad425, e425, hx425_0⟩ := Kd.at_bool (Kd.R_reads' HO_7.out).2.2 x9_2 p425 q425
                  (try rw [← Nbq25.out] at hx425_0)
                  obtain rfl : (⟨go13, 0, none⟩ : Addr) = ad425 := (by injection e425)
                  (first | simp only [add_plain] at hx425_0 | simp only [add_at] at hx425_0 | simp only [Addr.add, Nat.zero_add] at hx425_0 | skip)
                  replace p425 := eq_true p425
                  replace q425 := eq_true q425
                  have hcz28_0 : wr.cell? ⟨gb420, 0, none⟩ = some (.slice A0_0 l0_0.length c0_0) := (blk_cell BK420.out 0).trans rfl
                  have hcz28_1 : wr.cell? ⟨gb420, 1, none⟩ = some (.slice A0_1 l0_1.length c0_1) := (blk_cell BK420.out 1).trans rfl
                  have hfz28_0 := blk_frozen BK420.out 0
                  have hfz28_1 := blk_frozen BK420.out 1
                  have p426 : 0 ≤ (x9_2 : Int) := D_
                  have q426 : x9_2 < (l0_0.length : Int) := D_
                  obtain ⟨ad426, A426_0, c426_0, e426, hx426_0, hl426_0, hi426_0⟩ := at_L1 HR0_0.out x9_2 p426 q426
                  cases e426
                  replace hx426_0 := (HB.out.cell (World.block_lt_of_cell? w _ hx426_0)).trans hx426_0
                  have HR426_0 := Aside0.mk hi426_0
                  have HC426_0 := Aside0.mk hl426_0
                  clear hi426_0 hl426_0
                  replace p426 := eq_true p426
                  replace q426 := eq_true q426
                  go_wp2
                  go_meet
                  case rel => exact ⟨_, (decide (x10_3 < ((rd_L1 l0_0 x9_2).length : Int))), (by first | rfl | (simp; done) | (simp [*]; done)), H', ⟨by have := HK1.out; have := HK2.out; have := HK3.out; first | omega | exact Nat.le_refl _⟩, ⟨by (try simp only [hl7_1]); (try simp only [hl7_2]); (try simp only [hl7_3]); exact RM_ HO_7.out⟩, ⟨by (try simp only [hl7_1]); (try simp only [hl7_2]); (try simp only [hl7_3]); exact KX_ BK420.out⟩, ⟨B1_⟩⟩
                 rw [if_neg c27] at H
                 exact absurd H (by simp)
                replace c26 := Bool.eq_false_iff.mpr c26
                subst c26
                have H1 : (lockstepref06_Reach.j3 k3 a2 x7_3 x8_1 x9_2 x10_3 false l0_0 l0_1) = some r := by rw [if_neg (show ¬ (false = true) by decide)] at H; exact H
                clear H
                have H := H1
                clear H1
                have H' := Aside0.mk H
                clear H
                have p425 : 0 ≤ (x9_2 : Int) := D_
                have q425 : x9_2 < (x7_3.length : Int) := D_
                obtain ⟨ad425, e425, hx425_0⟩ := Kd.at_bool (Kd.R_reads' HO_7.out).2.2 x9_2 p425 q425
                (try rw [← Nbq25.out] at hx425_0)
                obtain rfl : (⟨go13, 0, none⟩ : Addr) = ad425 := (by injection e425)
                (first | simp only [add_plain] at hx425_0 | simp only [add_at] at hx425_0 | simp only [Addr.add, Nat.zero_add] at hx425_0 | skip)
                replace p425 := eq_true p425
                replace q425 := eq_true q425
                go_wp2
                go_meet
                case rel => exact ⟨_, (false), (by first | rfl | (simp; done) | (simp [*]; done)), H', ⟨by have := HK1.out; have := HK2.out; have := HK3.out; first | omega | exact Nat.le_refl _⟩, ⟨by (try simp only [hl7_1]); (try simp only [hl7_2]); (try simp only [hl7_3]); exact RM_ HO_7.out⟩, ⟨by (try simp only [hl7_1]); (try simp only [hl7_2]); (try simp only [hl7_3]); exact KX_ BK420.out⟩, ⟨B1_⟩⟩
               rw [if_neg c24] at H
               exact absurd H (by simp)
              rw [if_neg c23] at H
              exact absurd H (by simp)
             case rest =>
              clear HC22
              obtain ⟨kq, x47_21, rfl, HA, HJ21, HO_7, BK420, HB⟩ := hcut
              cases kq with
              | zero => exact absurd HA.out (by simp [lockstepref06_Reach.j3])
              | succ kj21 =>
               have H := HA.out
               clear HA
               simp only [lockstepref06_Reach.j3] at H
               by_cases c29 : x47_21 = true
               ·subst c29
                have H1 : (if 0 ≤ x9_2 then (if x9_2 < (l0_0.length : Int) then (if 0 ≤ x10_3 then (if x10_3 < ((rd_L1 l0_0 x9_2).length : Int) then (if (rd (rd_L1 l0_0 x9_2) x10_3) = a2 then (lockstepref06_Reach.l2 kj21 a2 x7_3 x8_1 x9_2 (wrap64 (x10_3 + 1)) l0_0 l0_1) else (if 0 ≤ (rd (rd_L1 l0_0 x9_2) x10_3) then (if (rd (rd_L1 l0_0 x9_2) x10_3) < (x7_3.length : Int) then (lockstepref06_Reach.l2 kj21 a2 (x7_3.set ((rd (rd_L1 l0_0 x9_2) x10_3) : Int).toNat true) x8_1 x9_2 (wrap64 (x10_3 + 1)) l0_0 l0_1) else (none)) else (none))) else (none)) else (none)) else (none)) else (none)) = some r := by rw [if_pos rfl] at H; exact H
                clear H
                have H := H1
                clear H1
                by_cases c30 : 0 ≤ x9_2
                ·rw [if_pos c30] at H
                 have c30b0 : decide (0 ≤ x9_2) = true := decide_eq_true c30
                 clear c30
                 by_cases c31 : x9_2 < (l0_0.length : Int)
                 ·rw [if_pos c31] at H
                  have c31b0 : decide (x9_2 < (l0_0.length : Int)) = true := decide_eq_true c31
                  clear c31
                  by_cases c32 : 0 ≤ x10_3
                  ·rw [if_pos c32] at H
                   have c32b0 : decide (0 ≤ x10_3) = true := decide_eq_true c32
                   clear c32
                   by_cases c33 : x10_3 < ((rd_L1 l0_0 x9_2).length : Int)
                   ·rw [if_pos c33] at H
                    have c33b0 : decide (x10_3 < ((rd_L1 l0_0 x9_2).length : Int)) = true := decide_eq_true c33
                    clear c33
                    by_cases c34 : (rd (rd_L1 l0_0 x9_2) x10_3) = a2
                    ·rw [if_pos c34] at H
                     have c34b0 : ((rd (rd_L1 l0_0 x9_2) x10_3) == a2) = true := beq_iff_eq.mpr c34
                     have c34b1 : ((rd (rd_L1 l0_0 x9_2) x10_3) != a2) = false := bne_eq_false_iff_eq.mpr c34
                     clear c34
                     have H' := Aside0.mk H
                     clear H
                     have hcz35_0 : wc.cell? ⟨gb420, 0, none⟩ = some (.slice A0_0 l0_0.length c0_0) := (blk_cell BK420.out 0).trans rfl
                     have hcz35_1 : wc.cell? ⟨gb420, 1, none⟩ = some (.slice A0_1 l0_1.length c0_1) := (blk_cell BK420.out 1).trans rfl
                     have hfz35_0 := blk_frozen BK420.out 0
                     have hfz35_1 := blk_frozen BK420.out 1
                     have p427 : 0 ≤ (x9_2 : Int) := D_
                     have q427 : x9_2 < (l0_0.length : Int) := D_
                     obtain ⟨ad427, A427_0, c427_0, e427, hx427_0, hl427_0, hi427_0⟩ := at_L1 HR0_0.out x9_2 p427 q427
                     cases e427
                     replace hx427_0 := (HB.out.cell (World.block_lt_of_cell? w _ hx427_0)).trans hx427_0
                     have HR427_0 := Aside0.mk hi427_0
                     have HC427_0 := Aside0.mk hl427_0
                     clear hi427_0 hl427_0
                     replace p427 := eq_true p427
                     replace q427 := eq_true q427
                     have p428 : 0 ≤ (x10_3 : Int) := D_
                     have q428 : x10_3 < ((rd_L1 l0_0 x9_2).length : Int) := D_
                     obtain ⟨ad428, e428, hx428_0⟩ := Kd.at_int HR427_0.out x10_3 p428 q428
                     cases e428
                     replace hx428_0 := (HB.out.cell (World.block_lt_of_cell? w _ hx428_0)).trans hx428_0
                     replace p428 := eq_true p428
                     replace q428 := eq_true q428
                     go_wp2
                     (try simp only [← hl7_3])
                     go_roundg kj21
                     case measure => have := HK1.out; have := HK2.out; have := HK3.out; have := HJ21.out; omega
                     case rel => exact ⟨(x7_3), (wrap64 (x10_3 + 1)), (by first | rfl | (simp; done) | (simp [*]; done)), H', ⟨by have := HK1.out; have := HK2.out; have := HK3.out; have := HJ21.out; omega⟩, ⟨by (try simp only [hl7_1]); (try simp only [hl7_2]); (try simp only [hl7_3]); exact RM_ HO_7.out⟩, ⟨by (try simp only [hl7_1]); (try simp only [hl7_2]); (try simp only [hl7_3]); exact KX_ BK420.out⟩, ⟨B1_⟩⟩
                    rw [if_neg c34] at H
                    have c34b0 : ((rd (rd_L1 l0_0 x9_2) x10_3) == a2) = false := beq_eq_false_iff_ne.mpr c34
                    have c34b1 : ((rd (rd_L1 l0_0 x9_2) x10_3) != a2) = true := bne_iff_ne.mpr c34
                    by_cases c36 : 0 ≤ (rd (rd_L1 l0_0 x9_2) x10_3)
                    ·rw [if_pos c36] at H
                     have c36b0 : decide (0 ≤ (rd (rd_L1 l0_0 x9_2) x10_3)) = true := decide_eq_true c36
                     clear c36
                     by_cases c37 : (rd (rd_L1 l0_0 x9_2) x10_3) < (x7_3.length : Int)
                     ·rw [if_pos c37] at H
                      have c37b0 : decide ((rd (rd_L1 l0_0 x9_2) x10_3) < (x7_3.length : Int)) = true := decide_eq_true c37
                      clear c37
                      obtain ⟨y431, hy431⟩ : ∃ y_ : List Bool, y_ = (x7_3.set ((rd (rd_L1 l0_0 x9_2) x10_3) : Int).toNat true) := ⟨_, rfl⟩
                      replace H : (lockstepref06_Reach.l2 kj21 a2 y431 x8_1 x9_2 (wrap64 (x10_3 + 1)) l0_0 l0_1) = some r := by first | (rw [hy431]; with_reducible exact H) | (have H2_ := (Option.bind_some _ _).symm.trans H; rw [hy431]; with_reducible exact H2_) | (have H2_ := (Option.bind_some _ _).symm.trans H; with_reducible exact H2_) | with_reducible exact H | (rw [hy431]; exact H) | exact H
                      have Ny431 := Aside0.mk hy431
                      clear hy431
                      have H' := Aside0.mk H
                      clear H
                      have hcz39_0 : wc.cell? ⟨gb420, 0, none⟩ = some (.slice A0_0 l0_0.length c0_0) := (blk_cell BK420.out 0).trans rfl
                      have hcz39_1 : wc.cell? ⟨gb420, 1, none⟩ = some (.slice A0_1 l0_1.length c0_1) := (blk_cell BK420.out 1).trans rfl
                      have hfz39_0 := blk_frozen BK420.out 0
                      have hfz39_1 := blk_frozen BK420.out 1
                      have p427 : 0 ≤ (x9_2 : Int) := D_
                      have q427 : x9_2 < (l0_0.length : Int) := D_
                      obtain ⟨ad427, A427_0, c427_0, e427, hx427_0, hl427_0, hi427_0⟩ := at_L1 HR0_0.out x9_2 p427 q427
                      cases e427
                      replace hx427_0 := (HB.out.cell (World.block_lt_of_cell? w _ hx427_0)).trans hx427_0
                      have HR427_0 := Aside0.mk hi427_0
                      have HC427_0 := Aside0.mk hl427_0
                      clear hi427_0 hl427_0
                      replace p427 := eq_true p427
                      replace q427 := eq_true q427
                      have p428 : 0 ≤ (x10_3 : Int) := D_
                      have q428 : x10_3 < ((rd_L1 l0_0 x9_2).length : Int) := D_
                      obtain ⟨ad428, e428, hx428_0⟩ := Kd.at_int HR427_0.out x10_3 p428 q428
                      cases e428
                      replace hx428_0 := (HB.out.cell (World.block_lt_of_cell? w _ hx428_0)).trans hx428_0
                      replace p428 := eq_true p428
                      replace q428 := eq_true q428
                      have p429 : 0 ≤ (x9_2 : Int) := D_
                      have q429 : x9_2 < (l0_0.length : Int) := D_
                      obtain ⟨ad429, A429_0, c429_0, e429, hx429_0, hl429_0, hi429_0⟩ := at_L1 HR0_0.out x9_2 p429 q429
                      obtain rfl : ad427 = ad429 := (by injection e429)
                      replace hx429_0 := (HB.out.cell (World.block_lt_of_cell? w _ hx429_0)).trans hx429_0
                      have HR429_0 := Aside0.mk hi429_0
                      have HC429_0 := Aside0.mk hl429_0
                      clear hi429_0 hl429_0
                      replace p429 := eq_true p429
                      replace q429 := eq_true q429
                      have ea_ := Option.some.inj (hx427_0.symm.trans hx429_0)
                      injection ea_ with ea_ en_ ec_
                      subst ea_
                      subst ec_
                      clear en_
                      have p430 : 0 ≤ (x10_3 : Int) := D_
                      have q430 : x10_3 < ((rd_L1 l0_0 x9_2).length : Int) := D_
                      obtain ⟨ad430, e430, hx430_0⟩ := Kd.at_int HR429_0.out x10_3 p430 q430
                      cases e430
                      replace hx430_0 := (HB.out.cell (World.block_lt_of_cell? w _ hx430_0)).trans hx430_0
                      replace p430 := eq_true p430
                      replace q430 := eq_true q430
                      have p38 : 0 ≤ ((rd (rd_L1 l0_0 x9_2) x10_3) : Int) := D_
                      have q38 : ((rd (rd_L1 l0_0 x9_2) x10_3) : Int) < ((x7_3.length : Int) : Int) := D_
                      obtain ⟨hx38_0, hf38_0⟩ := Kd.R_celln false HO_7.out ((rd (rd_L1 l0_0 x9_2) x10_3) : Int) p38 q38
                      replace p38 := eq_true p38
                      replace q38 := eq_true q38
                      have HP40 := Kd.R_putg HO_7.out ((rd (rd_L1 l0_0 x9_2) x10_3) : Int) true
                      go_wp2_with (first | ((with_reducible refine gate_store (t := 4) (p := 69) rfl ?_); refine store_event (t := 4) (p := 69) (v := ?vo_w41) (w1 := (wc.setCell ⟨go13, ((rd (rd_L1 l0_0 x9_2) x10_3) : Int).toNat, none⟩ (.bool true))) ?hg ?ho ?hn ?hr ?_; (case ho => rfl); (case hg => rfl); (case hn => rfl); (case hr => first | (go_simp; done) | (go_simp; rfl)); intro w41 hw; have hg : wc.grownBy w41 (some go13) := (by rw [hw]; exact HP40.2); have hp_ : Kd.R Kd.bool 4 w41 w.heap.size (fun _ => True) (.slice (some ⟨go13, 0, none⟩) x7_3.length co13) y431 := (by rw [hw, Ny431.out]; exact HP40.1); clear HP40; have n0_ := Aside0.mk (hp_); have n1_ := Aside0.mk (blk_grown (g := gb420) (o := .cells #[.slice (some ad427) l0_0.length c0_0, .slice A0_1 l0_1.length c0_1] 26 (0, 0)) (by exact KX_ BK420.out) hg (Kd.R_ne HO_7.out BK420.out (by decide))); have n2_ := Aside0.mk ((by rw [hw]; exact below_set (HB.out) GB13.out : Below w.heap.size w w41)); clear HO_7; clear BK420; clear HB; have HO_7 := n0_; have BK420 := n1_; have HB := n2_; clear n0_ n1_ n2_; clear hg hw hp_))
                      (try simp only [← hl7_3])
                      go_roundg kj21
                      case measure => have := HK1.out; have := HK2.out; have := HK3.out; have := HJ21.out; omega
                      case rel => exact ⟨(y431), (wrap64 (x10_3 + 1)), (by first | rfl | (simp; done) | (simp [*]; done)), H', ⟨by have := HK1.out; have := HK2.out; have := HK3.out; have := HJ21.out; omega⟩, ⟨by (try simp only [hl7_1]); (try simp only [hl7_2]); (try simp only [hl7_3]); exact RM_ HO_7.out⟩, ⟨by (try simp only [hl7_1]); (try simp only [hl7_2]); (try simp only [hl7_3]); exact KX_ BK420.out⟩, ⟨B1_⟩⟩
                     rw [if_neg c37] at H
                     exact absurd H (by simp)
                    rw [if_neg c36] at H
                    exact absurd H (by simp)
                   rw [if_neg c33] at H
                   exact absurd H (by simp)
                  rw [if_neg c32] at H
                  exact absurd H (by simp)
                 rw [if_neg c31] at H
                 exact absurd H (by simp)
                rw [if_neg c30] at H
                exact absurd H (by simp)
               replace c29 := Bool.eq_false_iff.mpr c29
               subst c29
               have H1 : (lockstepref06_Reach.l1 kj21 a2 x7_3 x8_1 (wrap64 (x9_2 + 1)) l0_0 l0_1) = some r := by rw [if_neg (show ¬ (false = true) by decide)] at H; exact H
               clear H
               have H := H1
               clear H1
               have H' := Aside0.mk H
               clear H
               go_wp2
               (try simp only [← hl7_2, ← hl7_3])
               go_roundg kj21
               case measure => have := HK1.out; have := HK2.out; have := HK3.out; have := HJ21.out; omega
               case rel => exact ⟨(x7_3), (wrap64 (x9_2 + 1)), (by first | rfl | (simp; done) | (simp [*]; done)), H', ⟨by have := HK1.out; have := HK2.out; have := HK3.out; have := HJ21.out; omega⟩, ⟨by (try simp only [hl7_1]); (try simp only [hl7_2]); (try simp only [hl7_3]); exact RM_ HO_7.out⟩, ⟨by (try simp only [hl7_1]); (try simp only [hl7_2]); (try simp only [hl7_3]); exact KX_ BK420.out⟩, ⟨B1_⟩⟩
          rw [if_neg c21] at H
          have c21b0 : decide (x9_2 < (x7_2.length : Int)) = false := decide_eq_false c21
          clear c21
          have H' := Aside0.mk H
          clear H
          go_wp2
          (try simp only [← hl7_1, ← hl7_2])
          go_roundg k2
          case measure => have := HK1.out; have := HK2.out; omega
          case rel => exact ⟨(x7_2), (wrap64 (x8_1 + 1)), (by first | rfl | (simp; done) | (simp [*]; done)), H', ⟨by have := HK1.out; have := HK2.out; omega⟩, ⟨by (try simp only [hl7_1]); (try simp only [hl7_2]); exact RM_ HO_7.out⟩, ⟨by (try simp only [hl7_1]); (try simp only [hl7_2]); exact KX_ BK420.out⟩, ⟨B1_⟩⟩
       rw [if_neg c20] at H
       have c20b0 : decide (x8_1 < (x7_1.length : Int)) = false := decide_eq_false c20
       clear c20
       obtain rfl := Option.some.inj H
       go_wp2
       go_ret
       exact ⟨_, by first | rfl | (simp [errW_none, errW_some] <;> rfl) | (simp [*, errW_none, errW_some] <;> rfl), by exact RX_ HO_7.out, B1_⟩
    rw [if_neg c12] at H
    exact absurd H (by simp)
   rw [if_neg c11] at H
   exact absurd H (by simp)
  rw [if_neg c5] at H
  exact absurd H (by simp)
 rw [if_neg c4] at H
 exact absurd H (by simp)

end Go.Proofs.Ytoekeknfeinphaa.G
namespace Go.Proofs.Ytoekeknfeinphaa.GP
open Go.RowKit Go.Proofs.Ytoekeknfeinphaa.G Go.Proofs.YtoekeknfeinphaaW.PrintWords

theorem awake_ok : locksteplaw10_awake.f 100 = some true := by decide +kernel
theorem awake_ev : Ev (fun k => locksteplaw10_awake.f k) true := Ev.of_at (fun k => locksteplaw10_awake.mono k) awake_ok

theorem small_l0 (d : Nat) : ∀ (i : Nat) (s : List (List Int)), s.length ≤ big → i ≤ s.length → s.length - i = d → i ≤ 101 →
    ∃ b, Ev (fun k => lockstepref06_Small.l0 k s (i : Int)) b ∧ (b = true → s.length ≤ 101 ∧ ∀ l ∈ s.drop i, l.length ≤ 100) := by
  induction d with
  | zero =>
    intro i s hb hi hd h1
    refine ⟨true, Ev.succ ?_, fun _ => ⟨by omega, by rw [List.drop_of_length_le (by omega)]; simp⟩⟩
    simp only [lockstepref06_Small.l0]
    exact Ev.ifn (by omega) Ev.pure
  | succ d ih =>
    intro i s hb hi hd h1
    have hbb : big = 9223372036854775807 := rfl
    have hrd : rd_L1 s (i : Int) = s.getD i [] := by simp [rd_L1]
    by_cases hc : ((s.getD i []).length : Int) > 100
    · refine ⟨false, Ev.succ ?_, fun h => by cases h⟩
      simp only [lockstepref06_Small.l0]
      refine Ev.ifp (by omega) (Ev.ifp (by omega) (Ev.ifp (by rw [hrd]; exact hc) Ev.pure))
    · by_cases hc2 : (i : Int) > 100
      · refine ⟨false, Ev.succ ?_, fun h => by cases h⟩
        simp only [lockstepref06_Small.l0]
        refine Ev.ifp (by omega) (Ev.ifp (by omega) (Ev.ifn (by rw [hrd]; exact hc) (Ev.ifp hc2 Ev.pure)))
      · obtain ⟨b, he, hb'⟩ := ih (i + 1) s hb (by omega) (by omega) (by omega)
        refine ⟨b, Ev.succ ?_, fun h => ⟨(hb' h).1, ?_⟩⟩
        · simp only [lockstepref06_Small.l0]
          refine Ev.ifp (by omega) (Ev.ifp (by omega) (Ev.ifn (by rw [hrd]; exact hc) (Ev.ifn hc2 ?_)))
          rw [wrap_nat (by omega)]; exact he
        · rw [drop_getD s i [] (by omega)]
          intro l hl
          rcases List.mem_cons.mp hl with e | e
          · subst e; omega
          · exact (hb' h).2 l e
theorem small_ev (s : List (List Int)) (hb : s.length ≤ big) : ∃ b, Ev (fun k => lockstepref06_Small.f k s) b ∧ (b = true → s.length ≤ 101 ∧ ∀ l ∈ s, l.length ≤ 100) := by
  obtain ⟨b, h1, h2⟩ := small_l0 s.length 0 s hb (by omega) (by omega) (by omega)
  exact ⟨b, by unfold lockstepref06_Small.f; simpa using h1, by simpa using h2⟩

/-! #### Reach -/
def rbn (n : Nat) (s : Sn) : List Bool := (List.range n).map s
@[simp] theorem rbn_length (n : Nat) (s : Sn) : (rbn n s).length = n := by simp [rbn]
theorem rd_rbn (n : Nat) (s : Sn) {y : Nat} (h : y < n) : rdOf false (rbn n s) (y : Int) = s y := by
  simp only [rdOf, Int.toNat_natCast, rbn]; exact getD_map_range _ _ _ _ h
theorem set_rbn (n : Nat) (s : Sn) (y : Nat) : (rbn n s).set y true = rbn n (upd s y) :=
  set_map_range _ _ _ _ _ (by simp [upd]) (fun j hj => by simp [upd, hj])
/-- No way leads out of it. -/
def Closed (S : List (List Nat)) (w : Int) (C : Nat → Prop) : Prop := ∀ a, C a → ∀ y ∈ S.getD a [], (y : Int) ≠ w → C y
def Sub (S : List (List Nat)) (w : Int) (X Y : Sn) : Prop := (∀ z, X z = true → Y z = true) ∧ ∀ C, Closed S w C → (∀ z, X z = true → C z) → ∀ z, Y z = true → C z
theorem Sub.refl (S : List (List Nat)) (w : Int) (X : Sn) : Sub S w X X := ⟨fun _ h => h, fun _ _ h => h⟩
theorem Sub.trans {S : List (List Nat)} {w : Int} {X Y Z : Sn} (h1 : Sub S w X Y) (h2 : Sub S w Y Z) : Sub S w X Z :=
  ⟨fun z h => h2.1 z (h1.1 z h), fun C hC h => h2.2 C hC (h1.2 C hC h)⟩

theorem reach_l2 {S : List (List Nat)} (h : Gr S) (P : List (List Int)) (w : Int) (t i : Nat) (hi : i < S.length) (v : List Bool) (d : Nat) :
    ∀ (j : Nat) (X : Sn), (S.getD i []).length - j = d → j ≤ (S.getD i []).length →
    (∀ Y, Sub S w X Y → (X i = true → ∀ y ∈ (S.getD i []).drop j, (y : Int) ≠ w → Y y = true) → Ev (fun k => lockstepref06_Reach.l1 k w (rbn S.length Y) (t : Int) ((i + 1 : Nat) : Int) (up2 S) P) v) →
    Ev (fun k => lockstepref06_Reach.l2 k w (rbn S.length X) (t : Int) (i : Int) (j : Int) (up2 S) P) v := by
  have hle := h.le
  have hdeg := gr_len h hi
  induction d with
  | zero =>
    intro j X hd hj hK
    have hK' := hK X (Sub.refl _ _ _) (fun _ y hy => by rw [List.drop_of_length_le (by omega)] at hy; cases hy)
    have hj3 : Ev (fun k => lockstepref06_Reach.j3 k w (rbn S.length X) (t : Int) (i : Int) (j : Int) false (up2 S) P) v := by
      refine Ev.succ ?_; simp only [lockstepref06_Reach.j3]
      refine Ev.ifn (by decide) ?_
      rw [wrap_nat (by omega)]; exact hK'
    refine Ev.succ ?_; simp only [lockstepref06_Reach.l2]
    rw [rd_rbn _ _ hi, rdL_up, up_length]
    refine Ev.ifp (by omega) (Ev.ifp (by rw [rbn_length]; omega) ?_)
    by_cases hX : X i = true
    · refine Ev.ifp hX (Ev.ifp (by rw [up2_length]; omega) ?_)
      rw [decide_eq_false (by omega)]; exact hj3
    · exact Ev.ifn hX hj3
  | succ d ih =>
    intro j X hd hj hK
    have hj1 : j < (S.getD i []).length := by omega
    have hy := (h.row i hi).2 _ (getD_mem (d := 0) hj1)
    refine Ev.succ ?_; simp only [lockstepref06_Reach.l2]
    rw [rd_rbn _ _ hi, rdL_up, up_length]
    refine Ev.ifp (by omega) (Ev.ifp (by rw [rbn_length]; omega) ?_)
    by_cases hX : X i = true
    · refine Ev.ifp hX (Ev.ifp (by rw [up2_length]; omega) ?_)
      rw [decide_eq_true (by omega)]
      refine Ev.succ ?_; simp only [lockstepref06_Reach.j3]
      rw [rdL_up, up_length, rd_up]
      have hdr := drop_getD (S.getD i []) j 0 hj1
      have hmem : (S.getD i []).getD j 0 ∈ S.getD i [] := getD_mem hj1
      generalize (S.getD i []).getD j 0 = y at hy hdr hmem
      rw [hdr] at hK
      refine Ev.ifp trivial (Ev.ifp (by omega) (Ev.ifp (by rw [up2_length]; omega) (Ev.ifp (by omega) (Ev.ifp (by omega) ?_))))
      by_cases hw : (y : Int) = w
      · refine Ev.ifp hw ?_
        rw [wrap_nat (by omega)]
        refine ih (j + 1) X (by omega) (by omega) (fun Y hY hYi => hK Y hY (fun hXi z hz hzw => ?_))
        rcases List.mem_cons.mp hz with e | e
        · subst e; exact absurd hw hzw
        · exact hYi hXi z e hzw
      · refine Ev.ifn hw (Ev.ifp (by omega) (Ev.ifp (by rw [rbn_length]; omega) ?_))
        rw [wrap_nat (by omega), Int.toNat_natCast, set_rbn]
        have hs : Sub S w X (upd X y) := ⟨fun z hz => upd_true.mpr (.inr hz), fun C hC hXC z hz => by
          rcases upd_true.mp hz with e | e
          · subst e; exact hC i (hXC i hX) z hmem hw
          · exact hXC z e⟩
        refine ih (j + 1) (upd X y) (by omega) (by omega) (fun Y hY hYi => hK Y (hs.trans hY) (fun hXi z hz hzw => ?_))
        rcases List.mem_cons.mp hz with e | e
        · subst e; exact hY.1 z (upd_self _ _)
        · exact hYi (upd_true.mpr (.inr hXi)) z e hzw
    · refine Ev.ifn hX ?_
      refine Ev.succ ?_; simp only [lockstepref06_Reach.j3]
      refine Ev.ifn (by decide) ?_
      rw [wrap_nat (by omega)]; exact hK X (Sub.refl _ _ _) (fun hXi => absurd hXi hX)
theorem reach_l1 {S : List (List Nat)} (h : Gr S) (P : List (List Int)) (w : Int) (t : Nat) (ht : t < S.length) (v : List Bool) (d : Nat) :
    ∀ (i : Nat) (X : Sn), S.length - i = d → i ≤ S.length →
    (∀ Y, Sub S w X Y → (∀ a, i ≤ a → a < S.length → X a = true → ∀ y ∈ S.getD a [], (y : Int) ≠ w → Y y = true) → Ev (fun k => lockstepref06_Reach.l0 k w (rbn S.length Y) ((t + 1 : Nat) : Int) (up2 S) P) v) →
    Ev (fun k => lockstepref06_Reach.l1 k w (rbn S.length X) (t : Int) (i : Int) (up2 S) P) v := by
  have hle := h.le
  induction d with
  | zero =>
    intro i X hd hi hK
    refine Ev.succ ?_; simp only [lockstepref06_Reach.l1]
    refine Ev.ifn (by rw [rbn_length]; omega) ?_
    rw [wrap_nat (by omega)]
    exact hK X (Sub.refl _ _ _) (fun a h1 h2 => by omega)
  | succ d ih =>
    intro i X hd hi hK
    refine Ev.succ ?_; simp only [lockstepref06_Reach.l1]
    refine Ev.ifp (by rw [rbn_length]; omega) ?_
    refine reach_l2 h P w t i (by omega) v _ 0 X rfl (by omega) (fun Y hY hYi => ?_)
    refine ih (i + 1) Y (by omega) (by omega) (fun Z hZ hZi => hK Z (hY.trans hZ) (fun a h1 h2 hXa y hy hyw => ?_))
    by_cases e : a = i
    · subst e
      exact hZ.1 y (hYi hXa y (by simpa using hy) hyw)
    · exact hZi a (by omega) h2 (hY.1 a hXa) y hy hyw
noncomputable def rchb (S : List (List Nat)) (w : Int) (r : Nat) : Sn := fun z => @decide (Rch S w r z) (Classical.propDecidable _)
theorem rchb_true {S : List (List Nat)} {w : Int} {r z : Nat} : rchb S w r z = true ↔ Rch S w r z := by unfold rchb; exact @decide_eq_true_iff _ (Classical.propDecidable _)
theorem rch_closed (S : List (List Nat)) (w : Int) (r : Nat) : Closed S w (Rch S w r) := fun _ ha _ hy hw => .step ha hy hw
theorem closed_eq {S : List (List Nat)} {w : Int} {r : Nat} {X : Sn} (hr : X r = true) (hX : ∀ z, X z = true → Rch S w r z) (hc : Closed S w (fun z => X z = true)) : X = rchb S w r := by
  funext z
  have e : X z = true ↔ rchb S w r z = true := by
    rw [rchb_true]
    refine ⟨hX z, fun hz => ?_⟩
    induction hz with
    | base _ => exact hr
    | @step a y _ hy hw ih => exact hc a ih y hy hw
  cases h1 : X z <;> cases h2 : rchb S w r z
  · rfl
  · rw [h1, h2] at e; exact absurd (e.mpr rfl) (by decide)
  · rw [h1, h2] at e; exact absurd (e.mp rfl) (by decide)
  · rfl
theorem reach_l0 {S : List (List Nat)} (h : Gr S) (P : List (List Int)) (w : Int) (r : Nat) (hr : r < S.length) (d : Nat) :
    ∀ (t : Nat) (X : Sn), S.length - t = d → t ≤ S.length → X r = true → (∀ z, X z = true → Rch S w r z) → (Closed S w (fun z => X z = true) ∨ t + 1 + cnt S.length X ≤ S.length) →
    Ev (fun k => lockstepref06_Reach.l0 k w (rbn S.length X) (t : Int) (up2 S) P) (rbn S.length (rchb S w r)) := by
  have hle := h.le
  induction d with
  | zero =>
    intro t X hd ht hXr hX hI
    refine Ev.succ ?_; simp only [lockstepref06_Reach.l0]
    refine Ev.ifn (by rw [rbn_length]; omega) ?_
    rcases hI with hc | hc
    · rw [closed_eq hXr hX hc]; exact Ev.pure
    · omega
  | succ d ih =>
    intro t X hd ht hXr hX hI
    refine Ev.succ ?_; simp only [lockstepref06_Reach.l0]
    refine Ev.ifp (by rw [rbn_length]; omega) ?_
    refine reach_l1 h P w t (by omega) _ _ 0 X rfl (by omega) (fun Y hY hYa => ?_)
    refine ih (t + 1) Y (by omega) (by omega) (hY.1 r hXr) (hY.2 _ (rch_closed S w r) hX) ?_
    by_cases hc : Closed S w (fun z => X z = true)
    · refine .inl (fun a ha y hy hw => ?_)
      exact hY.1 y (hc a (hY.2 _ hc (fun _ hz => hz) a ha) y hy hw)
    · right
      rcases hI with hc' | hI
      · exact absurd hc' hc
      · have : ∃ a y, X a = true ∧ y ∈ S.getD a [] ∧ (y : Int) ≠ w ∧ X y = false := by
          refine Classical.byContradiction (fun hn => hc (fun a ha y hy hw => ?_))
          cases hq : X y with
          | true => exact hq
          | false => exact absurd ⟨a, y, ha, hy, hw, hq⟩ hn
        obtain ⟨a, y, ha, hy, hw, hq⟩ := this
        have haS := (hX a ha).lt h hr
        have := cnt_lt hY.1 ((h.row a haS).2 y hy) hq (hYa a (Nat.zero_le _) haS ha y hy hw)
        omega
theorem reach_ok {S : List (List Nat)} (h : Gr S) (P : List (List Int)) (w : Int) (r : Nat) (hr : r < S.length) : Ev (fun k => lockstepref06_Reach.f k (up2 S) P (r : Int) w) (rbn S.length (rchb S w r)) := by
  have hle := h.le
  unfold lockstepref06_Reach.f
  have e0 : List.replicate (((up2 S).length : Int)).toNat false = rbn S.length none' := by
    rw [up2_length, Int.toNat_natCast]
    apply List.ext_getElem
    · simp
    · intro j h1 h2; simp [rbn, none']
  refine Ev.ifp (by omega) (Ev.ifp (by rw [up2_length]; omega) ?_)
  rw [e0]
  simp only [Option.bind_some]
  by_cases hw : (r : Int) = w
  · refine Ev.ifp hw (Ev.pure.of_eq ?_)
    congr 1
    funext z
    cases hq : rchb S w r z with
    | false => rfl
    | true =>
      have h1 := rchb_true.mp hq
      exfalso
      induction h1 with
      | base h2 => exact h2 hw
      | step h1 _ _ ih => exact ih (rchb_true.mpr h1)
  · refine Ev.ifn hw (Ev.ifp (by omega) (Ev.ifp (by rw [rbn_length]; omega) ?_))
    rw [Int.toNat_natCast, set_rbn]
    have hu := cnt_upd (n := S.length) (s := none') hr rfl
    rw [cnt_none] at hu
    refine reach_l0 h P w r hr S.length 0 (upd none' r) (by omega) (by omega) (upd_self _ _) (fun z hz => ?_) (.inr (by omega))
    rcases upd_true.mp hz with e | e
    · subst e; exact .base hw
    · cases e
section
variable {S : List (List Nat)} {r : Nat} {at_ par : Nat → Nat}
theorem Gd.small (hD : Gd S r at_ par) : (dtl S r).length ≤ 1000 := by rw [dtl_length]; have := hD.gr.le; omega
theorem Gd.over_ev (hD : Gd S r at_ par) {a b : Nat} (ha : a < S.length) (hb : b < S.length) {v : Bool} (h : v = true ↔ Dm S r a b) : Ev (fun k => dom_Over.f k (dtl S r) (a : Int) (b : Int)) v :=
  (over_ok _ hD.small _ _).of_eq (hD.over_eq ha hb v h)
open Classical in
theorem Gd.over_ev' (hD : Gd S r at_ par) {a b : Nat} (ha : a < S.length) (hb : b < S.length) : Ev (fun k => dom_Over.f k (dtl S r) (a : Int) (b : Int)) (decide (Dm S r a b)) :=
  hD.over_ev ha hb decide_eq_true_iff
theorem Gd.meet_ev (hD : Gd S r at_ par) {a b : Nat} (ha : Rch S (-1) r a) (hb : Rch S (-1) r b) : ∃ m : Nat, Ev (fun k => dom_Meet.f k (dtl S r) (a : Int) (b : Int)) (m : Int) ∧ Dm S r m a ∧ Dm S r m b ∧ ∀ c, Dm S r c a → Dm S r c b → Dm S r c m := by
  obtain ⟨m, h1, h2⟩ := hD.meet ha hb
  exact ⟨m, (meet_ok _ hD.small _ _).of_eq h1, h2⟩
theorem Gd.meet_no_ev (hD : Gd S r at_ par) {a b : Nat} (ha : a < S.length) (hb : b < S.length) (h : ¬ (Rch S (-1) r a ∧ Rch S (-1) r b)) : Ev (fun k => dom_Meet.f k (dtl S r) (a : Int) (b : Int)) (-2) :=
  (meet_ok _ hD.small _ _).of_eq (hD.meet_no ha hb h)
end
theorem root_mod {a : Int} {n : Nat} (h : (Lit.int .u8 a).wf = true) (hn : 0 < n) : Int.tmod (wrap64 a) (n : Int) = ((a.toNat % n : Nat) : Int) ∧ a.toNat % n < n := by
  have h0 : 0 ≤ a ∧ a < 256 := by simp [Lit.wf, IntKind.min, IntKind.max, IntKind.signed, IntKind.bits] at h; omega
  refine ⟨?_, Nat.mod_lt _ hn⟩
  rw [wrap_id (by omega) (by omega)]
  obtain ⟨m, rfl⟩ : ∃ m : Nat, a = (m : Int) := ⟨a.toNat, by omega⟩
  rw [Int.toNat_natCast, Int.ofNat_tmod]
theorem order_nil (r : Int) : Ev (fun k => graph_Order.f k [] [] r) [] := order_no r (may_bad (s := []) (by simp) (by simp) (by decide) [])
theorem tree_nil (r : Int) : Ev (fun k => dom_Tree.f k [] [] r) [] := tree_no (order_nil r)

theorem getD_lt {S : List (List Nat)} {a y : Nat} (h : y ∈ S.getD a []) : a < S.length := by
  by_cases h1 : a < S.length
  · exact h1
  · rw [List.getD_eq_getElem?_getD, List.getElem?_eq_none (by omega)] at h; simp at h
theorem Rch.head {S : List (List Nat)} {w : Int} {a y b : Nat} (ha : (a : Int) ≠ w) (hy : y ∈ S.getD a []) (h : Rch S w y b) : Rch S w a b := Rch.trans (.step (.base ha) hy h.first) h

/-! #### the ways back -/
open Classical in
noncomputable def dmb (S : List (List Nat)) (a b : Nat) : Bool := decide (Dm S 0 a b)
theorem dmb_true {S : List (List Nat)} {a b : Nat} : dmb S a b = true ↔ Dm S 0 a b := by simp [dmb]
/-- The ways back from a block, of the first m of its ways. -/
noncomputable def rowb (S : List (List Nat)) (i m : Nat) : List S48 := (((S.getD i []).take m).filter fun b => dmb S b i).map fun b : Nat => (⟨(i : Int), (b : Int)⟩ : S48)
noncomputable def bkt (S : List (List Nat)) : Nat → List S48
  | 0 => []
  | i + 1 => bkt S i ++ rowb S i (S.getD i []).length
noncomputable def bks (S : List (List Nat)) : List S48 := bkt S S.length
theorem rowb_len {S : List (List Nat)} (hG : Gr S) {i : Nat} (hi : i < S.length) (m : Nat) : (rowb S i m).length ≤ 64 := by
  unfold rowb
  rw [List.length_map]
  have h1 := List.length_filter_le (fun b => dmb S b i) ((S.getD i []).take m)
  have h2 : ((S.getD i []).take m).length ≤ (S.getD i []).length := by rw [List.length_take]; omega
  have h3 := gr_len hG hi
  omega
theorem bkt_len {S : List (List Nat)} (hG : Gr S) : ∀ i, i ≤ S.length → (bkt S i).length ≤ 64 * i
  | 0, _ => by simp [bkt]
  | i + 1, hi => by
    have h1 := bkt_len hG i (by omega)
    have h2 := rowb_len hG (i := i) (by omega) (S.getD i []).length
    rw [bkt, List.length_append]; omega
theorem rowb_mem {S : List (List Nat)} {i m : Nat} {x : S48} (h : x ∈ rowb S i m) : ∃ b : Nat, x = ⟨(i : Int), (b : Int)⟩ ∧ b ∈ S.getD i [] ∧ Dm S 0 b i := by
  unfold rowb at h
  obtain ⟨b, hb, rfl⟩ := List.mem_map.mp h
  obtain ⟨h1, h2⟩ := List.mem_filter.mp hb
  exact ⟨b, rfl, List.mem_of_mem_take h1, dmb_true.mp h2⟩
theorem bkt_mem {S : List (List Nat)} {x : S48} : ∀ i, x ∈ bkt S i → ∃ a b : Nat, a < i ∧ x = ⟨(a : Int), (b : Int)⟩ ∧ Bck S a b
  | 0, h => by simp [bkt] at h
  | i + 1, h => by
    rw [bkt] at h
    rcases List.mem_append.mp h with h | h
    · obtain ⟨a, b, h1, h2, h3⟩ := bkt_mem i h; exact ⟨a, b, by omega, h2, h3⟩
    · obtain ⟨b, h1, h2, h3⟩ := rowb_mem h; exact ⟨i, b, by omega, h1, h2, h3⟩
theorem bkt_in {S : List (List Nat)} {a b : Nat} (h : Bck S a b) : ∀ i, a < i → (⟨(a : Int), (b : Int)⟩ : S48) ∈ bkt S i
  | 0, hi => by omega
  | i + 1, hi => by
    rw [bkt]
    by_cases e : a = i
    · subst e
      refine List.mem_append.mpr (.inr ?_)
      unfold rowb
      rw [List.take_length]
      exact List.mem_map.mpr ⟨b, List.mem_filter.mpr ⟨h.1, dmb_true.mpr h.2⟩, rfl⟩
    · exact List.mem_append.mpr (.inl (bkt_in h i (by omega)))
theorem bks_mem {S : List (List Nat)} {a b : Nat} : (⟨(a : Int), (b : Int)⟩ : S48) ∈ bks S ↔ Bck S a b := by
  constructor
  · intro h
    obtain ⟨a', b', _, e, h2⟩ := bkt_mem _ h
    injection e with e1 e2
    rw [show a = a' by omega, show b = b' by omega]; exact h2
  · intro h; exact bkt_in h _ (getD_lt h.1)
section
variable {S : List (List Nat)} {at_ par : Nat → Nat}
theorem over_dmb (hD : Gd S 0 at_ par) {a b : Nat} (ha : a < S.length) (hb : b < S.length) : Ev (fun k => dom_Over.f k (dtl S 0) (a : Int) (b : Int)) (dmb S a b) := hD.over_ev ha hb dmb_true
theorem backs_l1 (hD : Gd S 0 at_ par) {i : Nat} (hi : i < S.length) (v : List S48) (H : Ev (fun k => loop_Backs.l0 k (dtl S 0) (bkt S (i + 1)) (up2 S) (S.length : Int) ((i + 1 : Nat) : Int)) v) (d : Nat) : ∀ m, m ≤ (S.getD i []).length → (S.getD i []).length - m = d →
    Ev (fun k => loop_Backs.l1 k (dtl S 0) (bkt S i ++ rowb S i m) (i : Int) (up2 S) (S.length : Int) (i : Int) (up (S.getD i [])) ((S.getD i []).length : Int) (m : Int)) v := by
  have hG := hD.gr
  have hle := hG.le
  have hrl := gr_len hG hi
  have hbl := bkt_len hG i (by omega)
  induction d with
  | zero =>
    intro m hm hd
    obtain rfl : m = (S.getD i []).length := by omega
    refine Ev.succ ?_; simp only [loop_Backs.l1]
    refine Ev.ifn (by omega) ?_
    rw [wrap_nat (by omega)]; exact H
  | succ d ih =>
    intro m hm hd
    have hml : m < (S.getD i []).length := by omega
    have hy := (hG.row i hi).2 _ (getD_mem (d := 0) hml)
    have h2 := rowb_len hG hi m
    have hn := ih (m + 1) (by omega) (by omega)
    have hs : rowb S i (m + 1) = rowb S i m ++ (if dmb S ((S.getD i []).getD m 0) i = true then [⟨(i : Int), (((S.getD i []).getD m 0 : Nat) : Int)⟩] else []) := by
      unfold rowb
      rw [take_getD _ m 0 hml, List.filter_append, List.map_append]
      cases e : dmb S ((S.getD i []).getD m 0) i with
      | true => rw [List.filter_cons_of_pos (p := fun b => dmb S b i) e]; rfl
      | false => rw [List.filter_cons_of_neg (p := fun b => dmb S b i) (show ¬ dmb S _ i = true by rw [e]; decide)]; simp
    rw [hs] at hn
    refine Ev.succ ?_; simp only [loop_Backs.l1]
    rw [rd_up, wrap_nat (by omega), up_length]
    refine Ev.ifp (by omega) (Ev.ifp (by omega) (Ev.ifp (by omega) (Ev.bind (over_dmb hD hy hi) ?_)))
    cases e : dmb S ((S.getD i []).getD m 0) i with
    | true =>
      rw [e, if_pos rfl, ← List.append_assoc] at hn
      exact Ev.ifp rfl (Ev.ifp (by rw [List.length_append]; omega) hn)
    | false =>
      rw [e, if_neg (by decide), List.append_nil] at hn
      exact Ev.ifn (by decide) hn
theorem backs_l0 (hD : Gd S 0 at_ par) (d : Nat) : ∀ i, i ≤ S.length → S.length - i = d → Ev (fun k => loop_Backs.l0 k (dtl S 0) (bkt S i) (up2 S) (S.length : Int) (i : Int)) (bks S) := by
  induction d with
  | zero =>
    intro i hi hd
    obtain rfl : i = S.length := by omega
    refine Ev.succ ?_; simp only [loop_Backs.l0]
    exact Ev.ifn (by omega) Ev.pure
  | succ d ih =>
    intro i hi hd
    have h := backs_l1 hD (i := i) (by omega) (bks S) (ih (i + 1) (by omega) (by omega)) _ 0 (Nat.zero_le _) rfl
    rw [show rowb S i 0 = [] by simp [rowb], List.append_nil] at h
    refine Ev.succ ?_; simp only [loop_Backs.l0]
    rw [rdL_up, up_length]
    exact Ev.ifp (by omega) (Ev.ifp (by omega) (Ev.ifp (by rw [up2_length]; omega) h))
theorem tree_ok0 (hG : Gr S) : Ev (fun k => dom_Tree.f k (up2 S) (up2 (pr S)) 0) (dtl S 0) := by
  have := tree_ok hG (r := 0) hG.pos
  exact this
theorem backs_ok (hG : Gr S) : Ev (fun k => loop_Backs.f k (up2 S) (up2 (pr S))) (bks S) := by
  obtain ⟨at_, par, hD⟩ := gd_ex hG hG.pos
  unfold loop_Backs.f
  refine Ev.bind (tree_ok0 hG) ?_
  rw [up2_length]
  exact backs_l0 hD S.length 0 (Nat.zero_le _) rfl
end
/-! #### no graph: no tree, no ways back -/
theorem overT_nil (a b : Int) : overT [] a b = false := by
  unfold overT
  rw [show inT [] [a, b] = false from rfl]; rfl
theorem over_nil (a b : Int) : Ev (fun k => dom_Over.f k [] a b) false := (over_ok [] (by simp) a b).of_eq (overT_nil a b)
theorem backs_no_l1 (s : List (List Int)) (i : Nat) (hi : (i : Int) < 9223372036854775807) (r : List Int) (hr : r.length ≤ big) (H : Ev (fun k => loop_Backs.l0 k [] [] s (s.length : Int) ((i + 1 : Nat) : Int)) []) (d : Nat) : ∀ m, m ≤ r.length → r.length - m = d →
    Ev (fun k => loop_Backs.l1 k [] [] (i : Int) s (s.length : Int) (i : Int) r (r.length : Int) (m : Int)) [] := by
  have hbb : big = 9223372036854775807 := rfl
  induction d with
  | zero =>
    intro m hm hd
    refine Ev.succ ?_; simp only [loop_Backs.l1]
    refine Ev.ifn (by omega) ?_
    rw [wrap_nat (by omega)]; exact H
  | succ d ih =>
    intro m hm hd
    refine Ev.succ ?_; simp only [loop_Backs.l1]
    refine Ev.ifp (by omega) (Ev.ifp (by omega) (Ev.ifp (by omega) (Ev.bind (over_nil _ _) (Ev.ifn (by decide) ?_))))
    rw [wrap_nat (i := m) (by omega)]
    exact ih (m + 1) (by omega) (by omega)
theorem backs_no_l0 (s : List (List Int)) (hb : s.length ≤ big) (hr : ∀ l ∈ s, l.length ≤ big) (d : Nat) : ∀ i, i ≤ s.length → s.length - i = d → Ev (fun k => loop_Backs.l0 k [] [] s (s.length : Int) (i : Int)) [] := by
  have hbb : big = 9223372036854775807 := rfl
  induction d with
  | zero =>
    intro i hi hd
    refine Ev.succ ?_; simp only [loop_Backs.l0]
    exact Ev.ifn (by omega) Ev.pure
  | succ d ih =>
    intro i hi hd
    refine Ev.succ ?_; simp only [loop_Backs.l0]
    rw [show rd_L1 s (i : Int) = s.getD i [] by simp [rd_L1]]
    have hrow := hr _ (getD_mem (l := s) (i := i) (d := []) (by omega))
    refine Ev.ifp (by omega) (Ev.ifp (by omega) (Ev.ifp (by omega) ?_))
    exact backs_no_l1 s i (by omega) _ hrow (ih (i + 1) (by omega) (by omega)) _ 0 (Nat.zero_le _) rfl
theorem backs_no {s p : List (List Int)} (hb : s.length ≤ big) (hr : ∀ l ∈ s, l.length ≤ big) (hm : Ev (fun k => graph_May.f k s p) false) : Ev (fun k => loop_Backs.f k s p) [] := by
  unfold loop_Backs.f
  exact Ev.bind (tree_no (order_no 0 hm)) (backs_no_l0 s hb hr s.length 0 (Nat.zero_le _) rfl)

/-! #### where the ways back to a head come from -/
noncomputable def lat (S : List (List Nat)) (i h : Nat) : List Nat := (List.range i).filter fun a => decide (h ∈ S.getD a []) && dmb S h a
noncomputable def lats (S : List (List Nat)) (h : Nat) : List Nat := lat S S.length h
theorem mem_lats {S : List (List Nat)} {h a : Nat} : a ∈ lats S h ↔ Bck S a h := by
  unfold lats lat Bck
  rw [List.mem_filter, List.mem_range, Bool.and_eq_true, decide_eq_true_eq, dmb_true]
  exact ⟨fun h => h.2, fun h => ⟨getD_lt h.1, h⟩⟩
theorem lat_len {S : List (List Nat)} {i h : Nat} : (lat S i h).length ≤ i := by
  have := List.length_filter_le (fun a => decide (h ∈ S.getD a []) && dmb S h a) (List.range i)
  rw [List.length_range] at this; exact this
theorem nodup_pick {l : List Nat} (hn : l.Nodup) (p : Nat → Bool) (x : Nat) : (l.filter p).filter (fun b => decide (b = x)) = if x ∈ l ∧ p x = true then [x] else [] := by
  induction l with
  | nil => simp
  | cons a l ih =>
    have hn' := List.nodup_cons.mp hn
    have ih := ih hn'.2
    by_cases hpa : p a = true
    · rw [List.filter_cons_of_pos hpa]
      by_cases e : a = x
      · subst e
        rw [List.filter_cons_of_pos (by simp), ih, if_neg (fun h => hn'.1 h.1), if_pos ⟨List.mem_cons_self .., hpa⟩]
      · rw [List.filter_cons_of_neg (by simpa using e), ih]
        by_cases h2 : x ∈ l ∧ p x = true
        · rw [if_pos h2, if_pos ⟨List.mem_cons_of_mem _ h2.1, h2.2⟩]
        · rw [if_neg h2, if_neg (fun h => h2 ⟨(List.mem_cons.mp h.1).resolve_left (fun e2 => e e2.symm), h.2⟩)]
    · rw [List.filter_cons_of_neg hpa, ih]
      by_cases h2 : x ∈ l ∧ p x = true
      · rw [if_pos h2, if_pos ⟨List.mem_cons_of_mem _ h2.1, h2.2⟩]
      · rw [if_neg h2, if_neg (fun h => h2 ⟨(List.mem_cons.mp h.1).resolve_left (fun e2 => by subst e2; exact hpa h.2), h.2⟩)]
theorem from_rowb {S : List (List Nat)} (hG : Gr S) {i : Nat} (hi : i < S.length) (h : Nat) : fromOf (rowb S i (S.getD i []).length) (h : Int) = if h ∈ S.getD i [] ∧ dmb S h i = true then [(i : Int)] else [] := by
  unfold rowb fromOf
  rw [List.take_length, List.filter_map]
  have e : ((fun b : S48 => b.f1 == (h : Int)) ∘ fun b : Nat => (⟨(i : Int), (b : Int)⟩ : S48)) = fun b => decide (b = h) := by
    funext b
    show ((b : Int) == (h : Int)) = decide (b = h)
    by_cases e : b = h
    · subst e; simp
    · rw [decide_eq_false e]; simp; omega
  rw [e, nodup_pick (gr_nodup hG hi) (fun b => dmb S b i) h]
  split <;> rfl
theorem from_append (a b : List S48) (h : Int) : fromOf (a ++ b) h = fromOf a h ++ fromOf b h := by unfold fromOf; rw [List.filter_append, List.map_append]
theorem from_bkt {S : List (List Nat)} (hG : Gr S) (h : Nat) : ∀ i, i ≤ S.length → fromOf (bkt S i) (h : Int) = up (lat S i h)
  | 0, _ => by simp [bkt, fromOf, lat, up]
  | i + 1, hi => by
    rw [bkt, from_append, from_bkt hG h i (by omega), from_rowb hG (by omega)]
    unfold lat
    rw [List.range_succ, List.filter_append, up_append]
    congr 1
    by_cases e : h ∈ S.getD i [] ∧ dmb S h i = true
    · rw [if_pos e, List.filter_cons_of_pos (by rw [Bool.and_eq_true, decide_eq_true_eq]; exact e)]; rfl
    · rw [if_neg e, List.filter_cons_of_neg (by rw [Bool.and_eq_true, decide_eq_true_eq]; exact e)]; rfl
theorem from_bks {S : List (List Nat)} (hG : Gr S) (h : Nat) : fromOf (bks S) (h : Int) = up (lats S h) := from_bkt hG h S.length (Nat.le_refl _)

/-! #### a loop's blocks -/
open Classical in
noncomputable def lpb (S : List (List Nat)) (h : Nat) : Sn := fun x => decide (Lp S h x)
theorem lpb_true {S : List (List Nat)} {h x : Nat} : lpb S h x = true ↔ Lp S h x := by simp [lpb]
/-- What going back from the ways' ends has come to. -/
structure Lb (S : List (List Nat)) (h : Nat) (m : Sn) (st : List Nat) : Prop where
  lt : ∀ y, m y = true → y < S.length
  hd : m h = true
  slt : ∀ y ∈ st, y < S.length
  stk : ∀ y ∈ st, y = h ∨ ∃ l, Bck S l h ∧ Rch S (h : Int) y l
  sound : ∀ y, m y = true → Lp S h y
  frm : ∀ l, Bck S l h → m l = true ∨ l ∈ st
  clo : ∀ a, m a = true → a ≠ h → ∀ p, a ∈ S.getD p [] → Rch S (-1) 0 p → m p = true ∨ p ∈ st
theorem Lb.all {S : List (List Nat)} {h : Nat} {m : Sn} (hB : Lb S h m []) : m = lpb S h := by
  funext x
  have hh : m x = true ↔ lpb S h x = true := by
    rw [lpb_true]
    refine ⟨hB.sound x, fun hx => ?_⟩
    rcases hx with rfl | ⟨h1, l, h2, h3⟩
    · exact hB.hd
    · have hl : m l = true := (hB.frm l h2).resolve_right (by simp)
      have key : ∀ z, Rch S (h : Int) x z → m z = true → m x = true := by
        intro z hz
        induction hz with
        | base _ => exact fun hm => hm
        | @step a y ha hy hw ih =>
          intro hm
          exact ih ((hB.clo y hm (fun e => hw (by rw [e])) a hy (h1.trans ha.any)).resolve_right (by simp))
      exact key l h3 hl
  cases e : m x with
  | true => exact (hh.mp e).symm
  | false => cases e2 : lpb S h x with
    | true => rw [hh.mpr e2] at e; cases e
    | false => rfl
section
variable {S : List (List Nat)} {at_ par : Nat → Nat}
theorem body_l1 (hG : Gr S) (m : Sn) (d : Nat) : ∀ i, i ≤ S.length → S.length - i = d → Ev (fun k => loop_body.l1 k (rb m) (up ((List.range i).filter m)) (S.length : Int) (i : Int)) (up ((List.range S.length).filter m)) := by
  have hle := hG.le
  induction d with
  | zero =>
    intro i hi hd
    obtain rfl : i = S.length := by omega
    refine Ev.succ ?_; simp only [loop_body.l1]
    exact Ev.ifn (by omega) Ev.pure
  | succ d ih =>
    intro i hi hd
    have h1 := List.length_filter_le m (List.range i)
    rw [List.length_range] at h1
    have h2 := ih (i + 1) (by omega) (by omega)
    rw [List.range_succ, List.filter_append] at h2
    refine Ev.succ ?_; simp only [loop_body.l1]
    refine Ev.ifp (by omega) (Ev.ifp (by omega) (Ev.ifp (by omega) ?_))
    rw [rd_rb _ (by omega), wrap_nat (by omega), ← up_snoc]
    cases e : m i with
    | true =>
      rw [List.filter_cons_of_pos e] at h2
      exact Ev.ifp rfl (Ev.ifp (by rw [up_length]; omega) h2)
    | false =>
      rw [List.filter_cons_of_neg (by simp [e]), List.filter_nil, List.append_nil] at h2
      exact Ev.ifn (by decide) h2
theorem body_l0 (hD : Gd S 0 at_ par) {h : Nat} (hh : h < S.length) (M : Nat) : ∀ (m : Sn) (st : List Nat), Lb S h m st → st.length + 65 * cnt S.length m ≤ M → M ≤ 100000 →
    Ev (fun k => loop_body.l0 k (dtl S 0) (rb m) (up st) (up2 S) (up2 (pr S))) (up ((List.range S.length).filter (lpb S h))) := by
  have hG := hD.gr
  have hle := hG.le
  induction M with
  | zero =>
    intro m st hB hM _
    obtain rfl : st = [] := List.length_eq_zero_iff.mp (by omega)
    refine Ev.succ ?_; simp only [loop_body.l0]
    refine Ev.ifn (by simp) ?_
    rw [up2_length, ← hB.all]
    exact body_l1 hG m S.length 0 (Nat.zero_le _) rfl
  | succ M ih =>
    intro m st hB hM hC
    rcases List.eq_nil_or_concat st with rfl | ⟨st0, x, rfl⟩
    · refine Ev.succ ?_; simp only [loop_body.l0]
      refine Ev.ifn (by simp) ?_
      rw [up2_length, ← hB.all]
      exact body_l1 hG m S.length 0 (Nat.zero_le _) rfl
    · rw [List.concat_eq_append] at *
      have hl : (st0 ++ [x]).length = st0.length + 1 := by simp
      have hx := hB.slt x (by simp)
      have e1 : wrap64 (((up (st0 ++ [x])).length : Int) - 1) = (st0.length : Int) := by rw [up_length, hl, wrap_id (by omega) (by omega)]; omega
      have hsl : ∀ y ∈ st0, y < S.length := fun y hy => hB.slt y (List.mem_append.mpr (.inl hy))
      have hsk : ∀ y ∈ st0, y = h ∨ ∃ l, Bck S l h ∧ Rch S (h : Int) y l := fun y hy => hB.stk y (List.mem_append.mpr (.inl hy))
      have dropx : (m x = true ∨ ¬ Rch S (-1) 0 x) → Lb S h m st0 := by
        intro hc
        have hkeep : ∀ p, (Rch S (-1) 0 p) → (m p = true ∨ p ∈ st0 ++ [x]) → m p = true ∨ p ∈ st0 := by
          intro p hp h1
          rcases h1 with h1 | h1
          · exact .inl h1
          · rcases List.mem_append.mp h1 with h1 | h1
            · exact .inr h1
            · have e := List.mem_singleton.mp h1
              subst e
              exact .inl (hc.resolve_right (fun h2 => h2 hp))
        exact ⟨hB.lt, hB.hd, hsl, hsk, hB.sound, fun l h1 => hkeep l h1.2.1 (hB.frm l h1), fun a ha hne p hp hr => hkeep p hr (hB.clo a ha hne p hp hr)⟩
      refine Ev.succ ?_; simp only [loop_body.l0]
      rw [e1, rd_snoc]
      refine Ev.ifp (by rw [up_length]; omega) (Ev.ifp (by omega) (Ev.ifp (by rw [up_length]; omega) (Ev.ifp (by rw [up_length]; omega) ?_)))
      rw [up_snoc, Int.toNat_natCast, List.take_left' (by simp)]
      simp only [Option.bind_some]
      refine Ev.ifp (by omega) (Ev.ifp (by omega) ?_)
      rw [rd_rb _ (by omega)]
      rw [hl] at hM
      cases e : m x with
      | true => exact Ev.ifp rfl (ih m st0 (dropx (.inl e)) (by omega) (by omega))
      | false =>
        refine Ev.ifn (by decide) (Ev.bind (over_dmb hD hx hx) ?_)
        by_cases hr : Rch S (-1) 0 x
        · have hu := cnt_upd (n := S.length) hx e
          have hpl := gr_len (gr_pr hG) (i := x) (by rw [pr_length]; exact hx)
          have hxh : x ≠ h := by rintro rfl; rw [hB.hd] at e; cases e
          obtain ⟨l, hl1, hl2⟩ := (hB.stk x (by simp)).resolve_left hxh
          refine Ev.ifp (dmb_true.mpr (dm_refl hr)) (Ev.ifp (by rw [up2_length, pr_length]; omega) ?_)
          rw [rdL_up, Int.toNat_natCast, set_rb, ← up_append, up_length, up_length]
          refine Ev.ifp (by omega) (ih (upd m x) (st0 ++ (pr S).getD x []) ?_ (by rw [List.length_append]; omega) (by omega))
          have hup : ∀ y, m y = true → upd m x y = true := fun y hy => upd_true.mpr (.inr hy)
          have hkeep : ∀ p, (m p = true ∨ p ∈ st0 ++ [x]) → upd m x p = true ∨ p ∈ st0 ++ (pr S).getD x [] := by
            intro p h1
            rcases h1 with h1 | h1
            · exact .inl (hup p h1)
            · rcases List.mem_append.mp h1 with h1 | h1
              · exact .inr (List.mem_append.mpr (.inl h1))
              · exact .inl (upd_true.mpr (.inl (List.mem_singleton.mp h1)))
          refine ⟨fun y hy => ?_, hup h hB.hd, fun y hy => ?_, fun y hy => ?_, fun y hy => ?_, fun l h1 => hkeep l (hB.frm l h1), fun a ha hne p hp hrp => ?_⟩
          · rcases upd_true.mp hy with rfl | hy
            · exact hx
            · exact hB.lt y hy
          · rcases List.mem_append.mp hy with hy | hy
            · exact hsl y hy
            · exact ((mem_pr hx).mp hy).1
          · rcases List.mem_append.mp hy with hy | hy
            · exact hsk y hy
            · by_cases e2 : y = h
              · exact .inl e2
              · exact .inr ⟨l, hl1, Rch.head (by omega) ((mem_pr hx).mp hy).2 hl2⟩
          · rcases upd_true.mp hy with rfl | hy
            · exact .inr ⟨hr, l, hl1, hl2⟩
            · exact hB.sound y hy
          · rcases upd_true.mp ha with rfl | ha
            · exact .inr (List.mem_append.mpr (.inr ((mem_pr hx).mpr ⟨getD_lt hp, hp⟩)))
            · exact hkeep p (hB.clo a ha hne p hp hrp)
        · refine Ev.ifn (fun hc => hr (dmb_true.mp hc).1) (ih m st0 (dropx (.inr hr)) (by omega) (by omega))
theorem body_ok (hD : Gd S 0 at_ par) {h : Nat} (hh : h < S.length) : Ev (fun k => loop_body.f k (up2 S) (up2 (pr S)) (dtl S 0) (h : Int) (up (lats S h))) (up ((List.range S.length).filter (lpb S h))) := by
  have hle := hD.gr.le
  have hll : (lats S h).length ≤ S.length := lat_len
  unfold loop_body.f
  refine Ev.ifp (by omega) (Ev.ifp (by omega) ?_)
  rw [clone_ok _ (by rw [up_length]; omega)]
  simp only [Option.bind_some]
  have e0 : List.replicate 64 false = rb none' := by
    apply List.ext_getElem
    · simp [rb]
    · intro j h1 h2; rw [List.getElem_replicate]; simp [rb, none']
  rw [e0, Int.toNat_natCast, set_rb]
  have hu := cnt_upd (n := S.length) (s := none') hh rfl
  rw [cnt_none] at hu
  refine body_l0 hD hh (64 + 65 * 64) (upd none' h) (lats S h) ?_ (by omega) (by omega)
  refine ⟨fun y hy => ?_, upd_self _ _, fun y hy => getD_lt (mem_lats.mp hy).1, fun y hy => ?_, fun y hy => ?_, fun l h1 => .inr (mem_lats.mpr h1), fun a ha hne => ?_⟩
  · rcases upd_true.mp hy with rfl | hy
    · exact hh
    · cases hy
  · by_cases e : y = h
    · exact .inl e
    · exact .inr ⟨y, mem_lats.mp hy, .base (by omega)⟩
  · rcases upd_true.mp hy with rfl | hy
    · exact .inl rfl
    · cases hy
  · rcases upd_true.mp ha with rfl | ha
    · exact absurd rfl hne
    · cases ha

/-! #### the loops -/
noncomputable def lp1 (S : List (List Nat)) (h : Nat) : S43 := ⟨(h : Int), up ((List.range S.length).filter (lpb S h))⟩
noncomputable def hds (S : List (List Nat)) (i : Nat) : List Nat := (List.range i).filter fun h => decide (0 < (lats S h).length)
noncomputable def lps (S : List (List Nat)) : List S43 := (hds S S.length).map (lp1 S)
theorem hds_len {i : Nat} : (hds S i).length ≤ i := by
  have := List.length_filter_le (fun h => decide (0 < (lats S h).length)) (List.range i)
  rw [List.length_range] at this; exact this
theorem all_l1 (hD : Gd S 0 at_ par) (d : Nat) : ∀ i, i ≤ S.length → S.length - i = d →
    Ev (fun k => loop_All.l1 k (bks S) (dtl S 0) ((hds S i).map (lp1 S)) (S.length : Int) (i : Int) (up2 S) (up2 (pr S))) (lps S) := by
  have hG := hD.gr
  have hle := hG.le
  induction d with
  | zero =>
    intro i hi hd
    obtain rfl : i = S.length := by omega
    refine Ev.succ ?_; simp only [loop_All.l1]
    exact Ev.ifn (by omega) Ev.pure
  | succ d ih =>
    intro i hi hd
    have hn := ih (i + 1) (by omega) (by omega)
    have hl := hds_len (S := S) (i := i)
    have e : hds S (i + 1) = hds S i ++ (if 0 < (lats S i).length then [i] else []) := by
      unfold hds
      rw [List.range_succ, List.filter_append]
      by_cases e : 0 < (lats S i).length
      · rw [if_pos e, List.filter_cons_of_pos (by simpa using e)]; rfl
      · rw [if_neg e, List.filter_cons_of_neg (by simpa using e)]; rfl
    rw [e] at hn
    refine Ev.succ ?_; simp only [loop_All.l1]
    rw [from_bks hG, up_length, wrap_nat (by omega)]
    refine Ev.ifp (by omega) (Ev.ifp (by omega) ?_)
    by_cases e2 : 0 < (lats S i).length
    · rw [if_pos e2, List.map_append] at hn
      exact Ev.ifp (by omega) (Ev.bind (body_ok hD (by omega)) (Ev.ifp (by rw [List.length_map]; omega) hn))
    · rw [if_neg e2, List.append_nil] at hn
      exact Ev.ifn (by omega) hn
theorem bks_okb (hG : Gr S) : (bks S).all okb = true := by
  have hle := hG.le
  refine List.all_eq_true.mpr (fun x hx => ?_)
  obtain ⟨a, b, h1, rfl, h2⟩ := bkt_mem _ hx
  have h3 := (hG.row a h1).2 b h2.1
  simp only [okb, decide_eq_true_eq]
  omega
theorem all_ok (hG : Gr S) : Ev (fun k => loop_All.f k (up2 S) (up2 (pr S))) (lps S) := by
  have hle := hG.le
  obtain ⟨at_, par, hD⟩ := gd_ex hG hG.pos
  have hl := bkt_len hG S.length (Nat.le_refl _)
  unfold loop_All.f
  refine Ev.bind (tree_ok0 hG) (Ev.bind (backs_ok hG) (Ev.ifp ⟨bks_okb hG, ?_⟩ ?_))
  · show (bkt S S.length).length ≤ 4096; omega
  · rw [up2_length]
    exact all_l1 hD S.length 0 (Nat.zero_le _) rfl
end
theorem all_no_l1 (s p : List (List Int)) (hb : s.length ≤ big) (d : Nat) : ∀ i, i ≤ s.length → s.length - i = d → Ev (fun k => loop_All.l1 k [] [] [] (s.length : Int) (i : Int) s p) [] := by
  have hbb : big = 9223372036854775807 := rfl
  induction d with
  | zero =>
    intro i hi hd
    refine Ev.succ ?_; simp only [loop_All.l1]
    exact Ev.ifn (by omega) Ev.pure
  | succ d ih =>
    intro i hi hd
    refine Ev.succ ?_; simp only [loop_All.l1]
    rw [wrap_nat (by omega)]
    exact Ev.ifp (by omega) (Ev.ifp (by omega) (Ev.ifn (by simp [fromOf]) (ih (i + 1) (by omega) (by omega))))
theorem all_no {s p : List (List Int)} (hb : s.length ≤ big) (hr : ∀ l ∈ s, l.length ≤ big) (hm : Ev (fun k => graph_May.f k s p) false) : Ev (fun k => loop_All.f k s p) [] := by
  unfold loop_All.f
  exact Ev.bind (tree_no (order_no 0 hm)) (Ev.bind (backs_no hb hr hm) (Ev.ifp ⟨rfl, by simp⟩ (all_no_l1 s p hb s.length 0 (Nat.zero_le _) rfl)))

/-! #### how deep a block lies -/
theorem index_l0i (x : Int) (l : List Int) (hb : l.length ≤ big) (d : Nat) : ∀ i, i ≤ l.length → l.length - i = d → (∀ j, j < i → l.getD j 0 ≠ x) →
    ∃ r : Int, Ev (fun k => slices_Index_int_int.l0 k l x (l.length : Int) (i : Int)) r ∧ ((r = -1 ∧ x ∉ l) ∨ ∃ j : Nat, r = (j : Int) ∧ j < l.length ∧ l.getD j 0 = x ∧ ∀ q, q < j → l.getD q 0 ≠ x) := by
  have hbb : big = 9223372036854775807 := rfl
  induction d with
  | zero =>
    intro i hi hd hn
    refine ⟨-1, Ev.succ ?_, .inl ⟨rfl, fun hm => ?_⟩⟩
    · simp only [slices_Index_int_int.l0]
      exact Ev.ifn (by omega) Ev.pure
    · obtain ⟨j, hj, e⟩ := List.getElem_of_mem hm
      refine hn j (by omega) ?_
      rw [List.getD_eq_getElem?_getD, List.getElem?_eq_getElem hj]; exact e
  | succ d ih =>
    intro i hi hd hn
    have hrd : rd l (i : Int) = l.getD i 0 := by simp [rd]
    by_cases e : l.getD i 0 = x
    · refine ⟨(i : Int), Ev.succ ?_, .inr ⟨i, rfl, by omega, e, hn⟩⟩
      simp only [slices_Index_int_int.l0]
      rw [hrd]
      exact Ev.ifp (by omega) (Ev.ifp (by omega) (Ev.ifp (by omega) (Ev.ifp e.symm Ev.pure)))
    · obtain ⟨r, h1, h2⟩ := ih (i + 1) (by omega) (by omega) (fun j hj => by
        by_cases e2 : j = i
        · rw [e2]; exact e
        · exact hn j (by omega))
      refine ⟨r, Ev.succ ?_, h2⟩
      simp only [slices_Index_int_int.l0]
      rw [hrd, wrap_nat (by omega)]
      exact Ev.ifp (by omega) (Ev.ifp (by omega) (Ev.ifp (by omega) (Ev.ifn (fun e2 => e e2.symm) h1)))
theorem index_i (x : Int) (l : List Int) (hb : l.length ≤ big) :
    ∃ r : Int, Ev (fun k => slices_Index_int_int.f k l x) r ∧ ((r = -1 ∧ x ∉ l) ∨ ∃ j : Nat, r = (j : Int) ∧ j < l.length ∧ l.getD j 0 = x ∧ ∀ q, q < j → l.getD q 0 ≠ x) := by
  unfold slices_Index_int_int.f
  exact index_l0i x l hb l.length 0 (Nat.zero_le _) rfl (fun j hj => by omega)
theorem contains_i (l : List Int) (hb : l.length ≤ big) (x : Int) : Ev (fun k => slices_Contains_int_int.f k l x) (decide (x ∈ l)) := by
  obtain ⟨r, h1, h2⟩ := index_i x l hb
  unfold slices_Contains_int_int.f
  refine Ev.bind h1 (Ev.pure.of_eq ?_)
  rcases h2 with ⟨e, h3⟩ | ⟨j, e, h3, h4, _⟩
  · rw [e, decide_eq_false h3]; rfl
  · have hm : x ∈ l := by rw [← h4]; exact getD_mem h3
    rw [e, decide_eq_true hm]; exact decide_eq_true (by omega)
/-- How many of the loops have a block. -/
def lpdep (ls : List S43) (x : Int) : Nat := (ls.filter fun l => decide (x ∈ l.f1)).length
theorem ldepth_l0 (x : Int) (ls : List S43) (hb : ls.length ≤ 1000) (hr : ∀ l ∈ ls, l.f1.length ≤ big) (d : Nat) : ∀ i, i ≤ ls.length → ls.length - i = d →
    Ev (fun k => loop_Depth.l0 k x (lpdep (ls.take i) x : Int) ls (ls.length : Int) (i : Int)) (lpdep ls x : Int) := by
  induction d with
  | zero =>
    intro i hi hd
    obtain rfl : i = ls.length := by omega
    rw [List.take_length]
    refine Ev.succ ?_; simp only [loop_Depth.l0]
    exact Ev.ifn (by omega) Ev.pure
  | succ d ih =>
    intro i hi hd
    have hil : i < ls.length := by omega
    have hrd : rd_T43 ls (i : Int) = ls[i] := by simp [rd_T43, hil]
    have hn := ih (i + 1) (by omega) (by omega)
    have hle : lpdep (ls.take i) x ≤ i := by
      have h1 := List.length_filter_le (fun l : S43 => decide (x ∈ l.f1)) (ls.take i)
      have h2 := List.length_take_le i ls
      unfold lpdep; omega
    have e : lpdep (ls.take (i + 1)) x = lpdep (ls.take i) x + if x ∈ ls[i].f1 then 1 else 0 := by
      unfold lpdep
      rw [List.take_succ_eq_append_getElem hil, List.filter_append, List.length_append]
      by_cases h : x ∈ ls[i].f1
      · rw [List.filter_cons_of_pos (by simpa using h), if_pos h]; rfl
      · rw [List.filter_cons_of_neg (by simpa using h), if_neg h]; rfl
    rw [e] at hn
    refine Ev.succ ?_; simp only [loop_Depth.l0]
    rw [hrd, wrap_nat (by omega), wrap_nat (by omega)]
    refine Ev.ifp (by omega) (Ev.ifp (by omega) (Ev.ifp (by omega) (Ev.bind (contains_i _ (hr _ (List.getElem_mem hil)) x) ?_)))
    by_cases h : x ∈ ls[i].f1
    · rw [if_pos h] at hn; exact Ev.ifp (decide_eq_true h) hn
    · rw [if_neg h] at hn; exact Ev.ifn (by rw [decide_eq_false h]; decide) hn
theorem lps_len {S : List (List Nat)} : (lps S).length ≤ S.length := by unfold lps; rw [List.length_map]; exact hds_len
theorem lps_mem {S : List (List Nat)} {l : S43} (h : l ∈ lps S) : ∃ h : Nat, h < S.length ∧ 0 < (lats S h).length ∧ l = lp1 S h := by
  unfold lps at h
  obtain ⟨q, hq, rfl⟩ := List.mem_map.mp h
  obtain ⟨h1, h2⟩ := List.mem_filter.mp hq
  exact ⟨q, List.mem_range.mp h1, by simpa using h2, rfl⟩
theorem lp1_len {S : List (List Nat)} (h : Nat) : (lp1 S h).f1.length ≤ S.length := by
  show (up ((List.range S.length).filter (lpb S h))).length ≤ S.length
  have := List.length_filter_le (lpb S h) (List.range S.length)
  rw [List.length_range] at this; rw [up_length]; exact this
theorem ldepth_ok {S : List (List Nat)} (hG : Gr S) (x : Int) : Ev (fun k => loop_Depth.f k (up2 S) (up2 (pr S)) x) (lpdep (lps S) x : Int) := by
  have hle := hG.le
  have hl := lps_len (S := S)
  unfold loop_Depth.f
  refine Ev.bind (all_ok hG) ?_
  have hbb : big = 9223372036854775807 := rfl
  exact ldepth_l0 x (lps S) (by omega) (fun l h => by obtain ⟨q, _, _, rfl⟩ := lps_mem h; have := lp1_len (S := S) q; omega) _ 0 (Nat.zero_le _) rfl
theorem ldepth_no {s p : List (List Int)} (hb : s.length ≤ big) (hr : ∀ l ∈ s, l.length ≤ big) (hm : Ev (fun k => graph_May.f k s p) false) (x : Int) : Ev (fun k => loop_Depth.f k s p x) 0 := by
  unfold loop_Depth.f
  exact Ev.bind (all_no hb hr hm) (ldepth_l0 x [] (by simp) (by simp) 0 0 (Nat.zero_le _) rfl)

theorem getD_up (l : List Nat) (j : Nat) : (up l).getD j 0 = ((l.getD j 0 : Nat) : Int) := by
  have := rd_up l j
  simpa [rd] using this
section
variable {S : List (List Nat)} {at_ par : Nat → Nat}
theorem index_at (hG : Gr S) (ha : Places (dfs S 0) at_) {y : Nat} (hy : y ∈ dfs S 0) : Ev (fun k => slices_Index_int_int.f k (up (dfs S 0)) (y : Int)) (at_ y : Int) := by
  have hbb : big = 9223372036854775807 := rfl
  have hle := hG.le
  have hl := dfs_len hG (r := 0) hG.pos
  obtain ⟨r, h1, h2⟩ := index_i (y : Int) (up (dfs S 0)) (by rw [up_length]; omega)
  refine h1.of_eq ?_
  rcases h2 with ⟨_, h3⟩ | ⟨j, e, h3, h4, _⟩
  · exact absurd (List.mem_map.mpr ⟨y, hy, rfl⟩) h3
  · rw [up_length] at h3
    rw [getD_up] at h4
    rw [e, ← ha j h3, show (dfs S 0).getD j 0 = y by omega]
/-- From a place of the order on each block stands ahead of those at which it goes on. -/
def Fq (S : List (List Nat)) (at_ : Nat → Nat) (i : Nat) : Prop := ∀ q, i ≤ q → q < (dfs S 0).length → ∀ y ∈ S.getD ((dfs S 0).getD q 0) [], q < at_ y
open Classical in
theorem for_l1 (hG : Gr S) (ha : Places (dfs S 0) at_) {i : Nat} (hi : i < (dfs S 0).length)
    (H : Ev (fun k => loop_forward.l0 k (up (dfs S 0)) (up (dfs S 0)) ((dfs S 0).length : Int) ((i + 1 : Nat) : Int) (up2 S) (up2 (pr S))) (decide (Fq S at_ (i + 1)))) (d : Nat) :
    ∀ m, m ≤ (S.getD ((dfs S 0).getD i 0) []).length → (S.getD ((dfs S 0).getD i 0) []).length - m = d →
    Ev (fun k => loop_forward.l1 k (up (dfs S 0)) (i : Int) (up (dfs S 0)) ((dfs S 0).length : Int) (i : Int) (up (S.getD ((dfs S 0).getD i 0) [])) ((S.getD ((dfs S 0).getD i 0) []).length : Int) (m : Int) (up2 S) (up2 (pr S)))
      (decide ((∀ y ∈ (S.getD ((dfs S 0).getD i 0) []).drop m, i < at_ y) ∧ Fq S at_ (i + 1))) := by
  have hle := hG.le
  have hl := dfs_len hG (r := 0) hG.pos
  have hx := dfs_lt hG (r := 0) hG.pos _ (getD_mem (d := 0) hi)
  have hxr := (dfs_mem hG hG.pos _).mp (getD_mem (d := 0) hi)
  generalize hxe : (dfs S 0).getD i 0 = x at hx hxr
  have hrl := gr_len hG hx
  induction d with
  | zero =>
    intro m hm hd
    obtain rfl : m = (S.getD x []).length := by omega
    refine Ev.succ ?_; simp only [loop_forward.l1]
    rw [wrap_nat (i := i) (by omega)]
    refine Ev.ifn (by omega) (H.of_eq (decide_eq_decide.mpr ⟨fun h => ⟨fun y hy => ?_, h⟩, fun h => h.2⟩))
    rw [List.drop_length] at hy; cases hy
  | succ d ih =>
    intro m hm hd
    have hml : m < (S.getD x []).length := by omega
    have hn := ih (m + 1) (by omega) (by omega)
    have hy := getD_mem (d := 0) hml
    have hyd : (S.getD x []).getD m 0 ∈ dfs S 0 := (dfs_mem hG hG.pos _).mpr (.step hxr hy (by omega))
    refine Ev.succ ?_; simp only [loop_forward.l1]
    rw [rd_up, wrap_nat (i := m) (by omega), up_length, drop_getD _ m 0 hml]
    refine Ev.ifp (by omega) (Ev.ifp (by omega) (Ev.ifp (by omega) (Ev.bind (index_at hG ha hyd) ?_)))
    by_cases e : at_ ((S.getD x []).getD m 0) ≤ i
    · refine Ev.ifp (by omega) (Ev.pure.of_eq (decide_eq_false (fun h => ?_)).symm)
      have := h.1 _ (List.mem_cons_self ..); omega
    · refine Ev.ifn (by omega) (hn.of_eq (decide_eq_decide.mpr ⟨fun h => ⟨fun y hy => ?_, h.2⟩, fun h => ⟨fun y hy => h.1 y (List.mem_cons_of_mem _ hy), h.2⟩⟩))
      rcases List.mem_cons.mp hy with e2 | e2
      · rw [e2]; omega
      · exact h.1 y e2
open Classical in
theorem for_l0 (hG : Gr S) (ha : Places (dfs S 0) at_) (d : Nat) : ∀ i, i ≤ (dfs S 0).length → (dfs S 0).length - i = d →
    Ev (fun k => loop_forward.l0 k (up (dfs S 0)) (up (dfs S 0)) ((dfs S 0).length : Int) (i : Int) (up2 S) (up2 (pr S))) (decide (Fq S at_ i)) := by
  have hle := hG.le
  have hl := dfs_len hG (r := 0) hG.pos
  induction d with
  | zero =>
    intro i hi hd
    obtain rfl : i = (dfs S 0).length := by omega
    obtain ⟨t, ht⟩ := dfs_head hG 0
    refine Ev.succ ?_; simp only [loop_forward.l0]
    refine Ev.ifn (by omega) (Ev.pure.of_eq ?_)
    rw [up_length, decide_eq_true (by rw [ht]; simp), decide_eq_true]
    intro q h1 h2; omega
  | succ d ih =>
    intro i hi hd
    have hil : i < (dfs S 0).length := by omega
    have hx := dfs_lt hG (r := 0) hG.pos _ (getD_mem (d := 0) hil)
    have h := for_l1 hG ha hil (ih (i + 1) (by omega) (by omega)) _ 0 (Nat.zero_le _) rfl
    rw [List.drop_zero] at h
    refine Ev.succ ?_; simp only [loop_forward.l0]
    rw [rd_up, rdL_up, up_length, up_length]
    refine Ev.ifp (by omega) (Ev.ifp (by omega) (Ev.ifp (by omega) (Ev.ifp (by omega) (Ev.ifp (by rw [up2_length]; omega) (h.of_eq (decide_eq_decide.mpr ?_))))))
    constructor
    · rintro ⟨h1, h2⟩ q hq1 hq2 y hy
      by_cases e : q = i
      · subst e; exact h1 y hy
      · exact h2 q (by omega) hq2 y hy
    · intro h1
      exact ⟨fun y hy => h1 i (Nat.le_refl _) hil y hy, fun q hq1 hq2 y hy => h1 q (by omega) hq2 y hy⟩
end
open Classical in
noncomputable def acb (S : List (List Nat)) : Bool := decide (Ac S 0)
theorem acb_true {S : List (List Nat)} : acb S = true ↔ Ac S 0 := by simp [acb]
theorem acb_false {S : List (List Nat)} : acb S = false ↔ ¬ Ac S 0 := by simp [acb]
theorem for_ok {S : List (List Nat)} (hG : Gr S) : Ev (fun k => loop_forward.f k (up2 S) (up2 (pr S))) (acb S) := by
  obtain ⟨at_, ha⟩ := places_ex hG hG.pos
  have ho := order_ok hG (r := 0) hG.pos
  unfold loop_forward.f
  refine Ev.bind ho ?_
  rw [up_length]
  refine (for_l0 hG ha (dfs S 0).length 0 (Nat.zero_le _) rfl).of_eq (decide_eq_decide.mpr ?_)
  rw [ac_fw hG hG.pos ha]
  constructor
  · intro h x hx y hy
    obtain ⟨j, hj, e⟩ := mem_at ((dfs_mem hG hG.pos x).mpr hx)
    have := h j (Nat.zero_le _) hj y (by rw [e]; exact hy)
    rw [← e, ha j hj]; exact this
  · intro h q _ hq y hy
    have := h _ ((dfs_mem hG hG.pos _).mp (getD_mem (d := 0) hq)) y hy
    rw [ha q hq] at this; exact this
theorem for_no {s p : List (List Int)} (hm : Ev (fun k => graph_May.f k s p) false) : Ev (fun k => loop_forward.f k s p) false := by
  unfold loop_forward.f
  refine Ev.bind (order_no 0 hm) (Ev.succ ?_)
  simp only [loop_forward.l0]
  exact Ev.ifn (by simp) Ev.pure
theorem forward_ok {S : List (List Nat)} (hG : Gr S) : Ev (fun k => loop_Forward.f k (up2 S) (up2 (pr S))) (acb S) := by
  unfold loop_Forward.f; exact Ev.bind (for_ok hG) Ev.pure
theorem forward_no {s p : List (List Int)} (hm : Ev (fun k => graph_May.f k s p) false) : Ev (fun k => loop_Forward.f k s p) false := by
  unfold loop_Forward.f; exact Ev.bind (for_no hm) Ev.pure

/-! #### without the ways back -/
noncomputable def nb (S : List (List Nat)) : List (List Nat) := (List.range S.length).map fun a => (S.getD a []).filter fun b => !dmb S b a
@[simp] theorem nb_length (S : List (List Nat)) : (nb S).length = S.length := by simp [nb]
theorem nb_get {S : List (List Nat)} {a : Nat} (h : a < S.length) : (nb S).getD a [] = (S.getD a []).filter fun b => !dmb S b a := getD_map_range _ _ _ _ h
theorem nb_mem {S : List (List Nat)} {a b : Nat} : b ∈ (nb S).getD a [] ↔ b ∈ S.getD a [] ∧ ¬ Dm S 0 b a := by
  constructor
  · intro h
    have ha := getD_lt h
    rw [nb_length] at ha
    rw [nb_get ha] at h
    obtain ⟨h1, h2⟩ := List.mem_filter.mp h
    exact ⟨h1, fun hd => by rw [dmb_true.mpr hd] at h2; cases h2⟩
  · rintro ⟨h1, h2⟩
    rw [nb_get (getD_lt h1)]
    refine List.mem_filter.mpr ⟨h1, ?_⟩
    cases e : dmb S b a with
    | true => exact absurd (dmb_true.mp e) h2
    | false => rfl
theorem gr_nb {S : List (List Nat)} (hG : Gr S) : Gr (nb S) := by
  refine ⟨by rw [nb_length]; exact hG.pos, by rw [nb_length]; exact hG.le, fun i hi => ?_⟩
  rw [nb_length] at hi ⊢
  rw [nb_get hi]
  exact ⟨(hG.row i hi).1.filter _, fun y hy => (hG.row i hi).2 y (List.mem_filter.mp hy).1⟩
theorem index_2 {ls : List S48} (hb : ls.length ≤ big) (x y : Int) (d : Nat) : ∀ i, i ≤ ls.length → ls.length - i = d → (∀ j, j < i → ls[j]? ≠ some ⟨x, y⟩) →
    ∃ r : Int, Ev (fun k => slices_Index_2_int_2_int.l0 k ls (ls.length : Int) (i : Int) x y) r ∧ ((r = -1 ∧ (⟨x, y⟩ : S48) ∉ ls) ∨ (0 ≤ r ∧ (⟨x, y⟩ : S48) ∈ ls)) := by
  have hbb : big = 9223372036854775807 := rfl
  induction d with
  | zero =>
    intro i hi hd hn
    refine ⟨-1, Ev.succ ?_, .inl ⟨rfl, fun hm => ?_⟩⟩
    · simp only [slices_Index_2_int_2_int.l0]
      exact Ev.ifn (by omega) Ev.pure
    · obtain ⟨j, hj, e⟩ := List.getElem_of_mem hm
      exact hn j (by omega) (by rw [List.getElem?_eq_getElem hj, e])
  | succ d ih =>
    intro i hi hd hn
    have hil : i < ls.length := by omega
    have hrd : rd_T48 ls (i : Int) = ls[i] := by simp [rd_T48, hil]
    by_cases e : ls[i] = ⟨x, y⟩
    · refine ⟨(i : Int), Ev.succ ?_, .inr ⟨by omega, by rw [← e]; exact List.getElem_mem hil⟩⟩
      simp only [slices_Index_2_int_2_int.l0]
      rw [hrd, e]
      exact Ev.ifp (by omega) (Ev.ifp (by omega) (Ev.ifp (by omega) (Ev.ifp (by simp) Ev.pure)))
    · obtain ⟨r, h1, h2⟩ := ih (i + 1) (by omega) (by omega) (fun j hj => by
        by_cases e2 : j = i
        · subst e2; rw [List.getElem?_eq_getElem hil]; exact fun h => e (by injection h)
        · exact hn j (by omega))
      refine ⟨r, Ev.succ ?_, h2⟩
      simp only [slices_Index_2_int_2_int.l0]
      rw [hrd, wrap_nat (by omega)]
      refine Ev.ifp (by omega) (Ev.ifp (by omega) (Ev.ifp (by omega) (Ev.ifn (fun hc => e ?_) h1)))
      rw [Bool.and_eq_true, beq_iff_eq, beq_iff_eq] at hc
      obtain ⟨c1, c2⟩ := hc
      cases hq : ls[i] with
      | mk q1 q2 => rw [hq] at c1 c2; rw [c1, c2]
theorem contains_2 {ls : List S48} (hb : ls.length ≤ big) (x y : Int) {v : Bool} (h : v = true ↔ (⟨x, y⟩ : S48) ∈ ls) : Ev (fun k => slices_Contains_2_int_2_int.f k ls x y) v := by
  obtain ⟨r, h1, h2⟩ := index_2 hb x y ls.length 0 (Nat.zero_le _) rfl (fun j hj => by omega)
  unfold slices_Contains_2_int_2_int.f
  refine Ev.bind (show Ev (fun k => slices_Index_2_int_2_int.f k ls x y) r from by unfold slices_Index_2_int_2_int.f; exact h1) (Ev.pure.of_eq ?_)
  rcases h2 with ⟨e, h3⟩ | ⟨e, h3⟩
  · cases v with
    | true => exact absurd (h.mp rfl) h3
    | false => rw [e]; rfl
  · rw [h.mpr h3]; exact decide_eq_true (by omega)
/-- The rows told so far. -/
noncomputable def nbI (S : List (List Nat)) (i m : Nat) : List (List Nat) := (List.range S.length).map fun j => if j < i then (S.getD j []).filter (fun b => !dmb S b j) else if j = i then ((S.getD j []).take m).filter (fun b => !dmb S b j) else []
theorem nbI_next {S : List (List Nat)} {i : Nat} : nbI S i (S.getD i []).length = nbI S (i + 1) 0 := by
  refine List.map_congr_left (fun j _ => ?_)
  by_cases e1 : j < i
  · rw [if_pos e1, if_pos (by omega)]
  · by_cases e2 : j = i
    · subst e2; rw [if_neg e1, if_pos rfl, if_pos (by omega), List.take_length]
    · rw [if_neg e1, if_neg e2, if_neg (by omega)]
      split
      · rw [List.take_zero]; rfl
      · rfl
theorem red_l1 {S : List (List Nat)} (hG : Gr S) {i : Nat} (hi : i < S.length) (v : Bool) (H : Ev (fun k => loop_Reducible.l0 k (bks S) (up2 (nbI S (i + 1) 0)) (up2 S) (S.length : Int) ((i + 1 : Nat) : Int)) v) (d : Nat) : ∀ m, m ≤ (S.getD i []).length → (S.getD i []).length - m = d →
    Ev (fun k => loop_Reducible.l1 k (bks S) (up2 (nbI S i m)) (i : Int) (up2 S) (S.length : Int) (i : Int) (up (S.getD i [])) ((S.getD i []).length : Int) (m : Int)) v := by
  have hle := hG.le
  have hrl := gr_len hG hi
  have hbb : big = 9223372036854775807 := rfl
  have hbl : (bks S).length ≤ 64 * S.length := bkt_len hG S.length (Nat.le_refl _)
  induction d with
  | zero =>
    intro m hm hd
    obtain rfl : m = (S.getD i []).length := by omega
    refine Ev.succ ?_; simp only [loop_Reducible.l1]
    rw [wrap_nat (i := i) (by omega), nbI_next]
    exact Ev.ifn (by omega) H
  | succ d ih =>
    intro m hm hd
    have hml : m < (S.getD i []).length := by omega
    have hn := ih (m + 1) (by omega) (by omega)
    have hy := getD_mem (d := 0) hml
    have hc : dmb S ((S.getD i []).getD m 0) i = true ↔ (⟨(i : Int), (((S.getD i []).getD m 0 : Nat) : Int)⟩ : S48) ∈ bks S := by
      rw [bks_mem, dmb_true]; exact ⟨fun h => ⟨hy, h⟩, fun h => h.2⟩
    have hrow : (nbI S i m).getD i [] = ((S.getD i []).take m).filter (fun b => !dmb S b i) := by
      unfold nbI
      rw [getD_map_range _ _ _ _ hi, if_neg (by omega), if_pos rfl]
    have hrl2 : (((S.getD i []).take m).filter (fun b => !dmb S b i)).length ≤ 64 := by
      have h1 := List.length_filter_le (fun b => !dmb S b i) ((S.getD i []).take m)
      have h2 : ((S.getD i []).take m).length ≤ (S.getD i []).length := by rw [List.length_take]; omega
      omega
    have hset : ∀ l : List Nat, (up2 (nbI S i m)).set i (up l) = up2 ((List.range S.length).map fun j => if j = i then l else if j < i then (S.getD j []).filter (fun b => !dmb S b j) else []) := by
      intro l
      unfold up2 nbI
      rw [← List.map_set]
      congr 1
      refine set_map_range _ _ _ _ _ (by rw [if_pos rfl]) (fun j hj => ?_)
      rw [if_neg hj, if_neg hj]
    have hnx : ∀ l : List Nat, l = ((S.getD i []).take (m + 1)).filter (fun b => !dmb S b i) → ((List.range S.length).map fun j => if j = i then l else if j < i then (S.getD j []).filter (fun b => !dmb S b j) else []) = nbI S i (m + 1) := by
      intro l hl
      refine List.map_congr_left (fun j _ => ?_)
      by_cases e1 : j = i
      · subst e1; rw [if_pos rfl, if_neg (by omega), if_pos rfl, hl]
      · rw [if_neg e1, if_neg e1]
    refine Ev.succ ?_; simp only [loop_Reducible.l1]
    rw [rd_up, rdL_up, hrow, wrap_nat (i := m) (by omega), up_length, up_length]
    refine Ev.ifp (by omega) (Ev.ifp (by omega) (Ev.ifp (by omega) (Ev.bind (contains_2 (by omega) _ _ hc) ?_)))
    cases e : dmb S ((S.getD i []).getD m 0) i with
    | true =>
      have e2 : nbI S i (m + 1) = nbI S i m := by
        refine List.map_congr_left (fun j _ => ?_)
        by_cases e1 : j < i
        · rw [if_pos e1, if_pos e1]
        · rw [if_neg e1, if_neg e1]
          by_cases e3 : j = i
          · subst e3
            rw [if_pos rfl, if_pos rfl, take_getD _ m 0 hml, List.filter_append, List.filter_cons_of_neg (p := fun b => !dmb S b j) (by show ¬ (!dmb S _ j) = true; rw [e]; decide), List.filter_nil, List.append_nil]
          · rw [if_neg e3, if_neg e3]
      rw [e2] at hn
      exact Ev.ifp rfl hn
    | false =>
      refine Ev.ifn (by decide) (Ev.ifp (by omega) (Ev.ifp (by rw [up2_length]; simp [nbI]; omega) (Ev.ifp (by omega) ?_)))
      rw [Int.toNat_natCast, ← up_snoc, hset, hnx]
      · exact hn
      · rw [take_getD _ m 0 hml, List.filter_append, List.filter_cons_of_pos (p := fun b => !dmb S b i) (by show (!dmb S _ i) = true; rw [e]; rfl), List.filter_nil]
theorem red_l0 {S : List (List Nat)} (hG : Gr S) (d : Nat) : ∀ i, i ≤ S.length → S.length - i = d → Ev (fun k => loop_Reducible.l0 k (bks S) (up2 (nbI S i 0)) (up2 S) (S.length : Int) (i : Int)) (acb (nb S)) := by
  have hle := hG.le
  induction d with
  | zero =>
    intro i hi hd
    obtain rfl : i = S.length := by omega
    have e : nbI S S.length 0 = nb S := by
      refine List.map_congr_left (fun j hj => ?_)
      rw [if_pos (List.mem_range.mp hj)]
    rw [e]
    refine Ev.succ ?_; simp only [loop_Reducible.l0]
    exact Ev.ifn (by omega) (Ev.bind (make_ok (gr_nb hG)) (Ev.bind (for_ok (gr_nb hG)) Ev.pure))
  | succ d ih =>
    intro i hi hd
    have h := red_l1 hG (i := i) (by omega) _ (ih (i + 1) (by omega) (by omega)) _ 0 (Nat.zero_le _) rfl
    refine Ev.succ ?_; simp only [loop_Reducible.l0]
    rw [rdL_up, up_length]
    exact Ev.ifp (by omega) (Ev.ifp (by omega) (Ev.ifp (by rw [up2_length]; omega) h))
theorem red_ok {S : List (List Nat)} (hG : Gr S) : Ev (fun k => loop_Reducible.f k (up2 S) (up2 (pr S))) (acb (nb S)) := by
  have hle := hG.le
  have h := red_l0 hG S.length 0 (Nat.zero_le _) rfl
  have e : up2 (nbI S 0 0) = List.replicate S.length [] := by
    apply List.ext_getElem
    · simp [nbI]
    · intro j h1 h2; simp [nbI, up2, up]
  rw [e] at h
  unfold loop_Reducible.f
  refine Ev.bind (may_ok hG _) (Ev.ifp (by simp) (Ev.bind (backs_ok hG) ?_))
  rw [up2_length, Int.toNat_natCast]
  exact Ev.ifp (by omega) (Ev.ifp (by omega) h)
theorem red_no {s p : List (List Int)} (hm : Ev (fun k => graph_May.f k s p) false) : Ev (fun k => loop_Reducible.f k s p) false := by
  unfold loop_Reducible.f
  exact Ev.bind hm (Ev.ifn (by decide) Ev.pure)
theorem may_nil : Ev (fun k => graph_May.f k [] []) false := may_bad (s := []) (by simp) (by simp) (by decide) []
end Go.Proofs.Ytoekeknfeinphaa.GP
