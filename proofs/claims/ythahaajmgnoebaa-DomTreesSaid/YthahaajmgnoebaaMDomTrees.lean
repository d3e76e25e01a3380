/- Texts of this session, joined by wip/tools/merge.py. Conditions: each theorem's own. -/
import Derived.Test.YthahaajmgnoebaaGx4
import Derived.Test.YthahaajmgnoebaaGx8
import Derived.Test.YthahaajmgnoebaaGx10
import Derived.Test.YthahaajmgnoebaaGx14
import Derived.Test.YthahaajmgnoebaaGx13
import Derived.Test.YthahaajmgnoebaaMDomTreesc
import Derived.Test.YthahaajmgnoebaaGx22
import Derived.Test.YthahaajmgnoebaaGx5
import Derived.Test.YthahaajmgnoebaaMDomTreesb
import Derived.Test.YthahaajmgnoebaaHRows
import Derived.Test.YthahaajmgnoebaaRows
import Derived.WalkKit
import Derived.ProofKit
import Derived.OpenShut
import Derived.ShutString
import Derived.ChangeOld
import Derived.Below
import Derived.SizedLaws
import Derived.Test.YthahaajmgnoebaaWSized
namespace Go.Proofs.Ythahaajmgnoebaa.GP
open Go.RowKit Go.Proofs.Ythahaajmgnoebaa.G Go.Proofs.YthahaajmgnoebaaW.PrintWords

/-- With enough rounds the answer is v. -/
def Ev {α : Type} (f : Nat → Option α) (v : α) : Prop := ∃ K, ∀ k, K ≤ k → f k = some v
theorem Ev.succ {α : Type} {f : Nat → Option α} {v : α} (h : Ev (fun k => f (k + 1)) v) : Ev f v := by
  obtain ⟨K, h⟩ := h
  refine ⟨K + 1, fun k hk => ?_⟩
  obtain ⟨m, rfl⟩ : ∃ m, k = m + 1 := ⟨k - 1, by omega⟩
  exact h m (by omega)
theorem Ev.bind {α β : Type} {g : Nat → Option α} {h : Nat → α → Option β} {a : α} {r : β} (h1 : Ev g a) (h2 : Ev (fun k => h k a) r) : Ev (fun k => (g k).bind (fun t => h k t)) r := by
  obtain ⟨K1, h1⟩ := h1
  obtain ⟨K2, h2⟩ := h2
  refine ⟨K1 + K2, fun k hk => ?_⟩
  simp only [h1 k (by omega), Option.bind_some]
  exact h2 k (by omega)
theorem Ev.pure {α : Type} {v : α} : Ev (fun _ => some v) v := ⟨0, fun _ _ => rfl⟩
theorem Ev.ifp {α : Type} {c : Prop} [Decidable c] {a b : Nat → Option α} {v : α} (h : c) (H : Ev a v) : Ev (fun k => if c then a k else b k) v := by
  simp only [if_pos h]; exact H
theorem Ev.ifn {α : Type} {c : Prop} [Decidable c] {a b : Nat → Option α} {v : α} (h : ¬ c) (H : Ev b v) : Ev (fun k => if c then a k else b k) v := by
  simp only [if_neg h]; exact H
theorem Ev.at {α : Type} {f : Nat → Option α} {v : α} (h : Ev f v) : ∃ k, f k = some v := by
  obtain ⟨K, h⟩ := h; exact ⟨K, h K (Nat.le_refl _)⟩
theorem Ev.of_eq {α : Type} {f : Nat → Option α} {v w : α} (h : Ev f v) (e : v = w) : Ev f w := e ▸ h
theorem Ev.of_at {α : Type} {f : Nat → Option α} {v : α} (m : ∀ k, LeO (f k) (f (k + 1))) {K : Nat} (h : f K = some v) : Ev f v := by
  refine ⟨K, fun k hk => ?_⟩
  obtain ⟨d, rfl⟩ : ∃ d, k = K + d := ⟨k - K, by omega⟩
  clear hk
  induction d with
  | zero => exact h
  | succ d ih => exact m _ _ ih

theorem wrap_nat {i : Nat} (h : i < 9223372036854775807) : wrap64 ((i : Int) + 1) = ((i + 1 : Nat) : Int) := by unfold wrap64; omega
theorem wrap_id {x : Int} (h : -9223372036854775808 ≤ x) (h' : x ≤ 9223372036854775807) : wrap64 x = x := by unfold wrap64; omega

/-- Numbers as blocks' numbers. -/
def up (l : List Nat) : List Int := l.map (fun n : Nat => (n : Int))
def up2 (S : List (List Nat)) : List (List Int) := S.map up
@[simp] theorem up_length (l : List Nat) : (up l).length = l.length := by simp [up]
@[simp] theorem up2_length (S : List (List Nat)) : (up2 S).length = S.length := by simp [up2]
@[simp] theorem up_nil : up [] = [] := rfl
@[simp] theorem up2_nil : up2 [] = [] := rfl
theorem up_append (a b : List Nat) : up (a ++ b) = up a ++ up b := by simp [up]
theorem up_inj {a b : List Nat} (h : up a = up b) : a = b := by
  induction a generalizing b with
  | nil => cases b with
    | nil => rfl
    | cons y b => simp [up] at h
  | cons x a ih => cases b with
    | nil => simp [up] at h
    | cons y b =>
      simp only [up, List.map_cons, List.cons.injEq] at h
      rw [show x = y by omega, ih h.2]
theorem up2_inj {a b : List (List Nat)} (h : up2 a = up2 b) : a = b := by
  induction a generalizing b with
  | nil => cases b with
    | nil => rfl
    | cons y b => simp [up2] at h
  | cons x a ih => cases b with
    | nil => simp [up2] at h
    | cons y b =>
      simp only [up2, List.map_cons, List.cons.injEq] at h
      rw [up_inj h.1, ih h.2]
theorem rd_up (l : List Nat) (i : Nat) : rd (up l) (i : Int) = ((l.getD i 0 : Nat) : Int) := by
  simp only [rd, up, Int.toNat_natCast, List.getD_eq_getElem?_getD, List.getElem?_map]
  cases l[i]? <;> rfl
theorem rdL_up (S : List (List Nat)) (i : Nat) : rd_L1 (up2 S) (i : Int) = up (S.getD i []) := by
  simp only [rd_L1, up2, Int.toNat_natCast, List.getD_eq_getElem?_getD, List.getElem?_map]
  cases S[i]? <;> rfl
theorem getD_mem {α : Type} {l : List α} {i : Nat} {d : α} (h : i < l.length) : l.getD i d ∈ l := by
  rw [List.getD_eq_getElem?_getD, List.getElem?_eq_getElem h]; exact List.getElem_mem h
theorem drop_getD {α : Type} (l : List α) (i : Nat) (d : α) (h : i < l.length) : l.drop i = l.getD i d :: l.drop (i + 1) := by
  rw [List.drop_eq_getElem_cons h, List.getD_eq_getElem?_getD, List.getElem?_eq_getElem h]; rfl
theorem take_getD {α : Type} (l : List α) (i : Nat) (d : α) (h : i < l.length) : l.take (i + 1) = l.take i ++ [l.getD i d] := by
  rw [List.take_succ_eq_append_getElem h, List.getD_eq_getElem?_getD, List.getElem?_eq_getElem h]; rfl
theorem getD_map_range {α : Type} (n : Nat) (f : Nat → α) (i : Nat) (d : α) (h : i < n) : ((List.range n).map f).getD i d = f i := by
  rw [List.getD_eq_getElem?_getD, List.getElem?_map, List.getElem?_range h]; rfl
theorem set_map_range {α : Type} (n : Nat) (f g : Nat → α) (i : Nat) (v : α) (hv : g i = v) (he : ∀ j, j ≠ i → g j = f j) : ((List.range n).map f).set i v = (List.range n).map g := by
  apply List.ext_getElem
  · simp
  · intro j h1 h2
    simp only [List.getElem_set, List.getElem_map, List.getElem_range]
    split
    · next e => rw [← e, hv]
    · next e => rw [he j (fun h => e h.symm)]
theorem self_map_range {α : Type} (l : List α) (d : α) : l = (List.range l.length).map (fun i => l.getD i d) := by
  apply List.ext_getElem
  · simp
  · intro j h1 h2
    simp only [List.getElem_map, List.getElem_range, List.getD_eq_getElem?_getD, List.getElem?_eq_getElem h1]; rfl
theorem ext_getD {α : Type} {a b : List α} (d : α) (hl : a.length = b.length) (h : ∀ i, i < a.length → a.getD i d = b.getD i d) : a = b := by
  rw [self_map_range a d, self_map_range b d, hl]
  exact List.map_congr_left (fun i hi => h i (by have := List.mem_range.mp hi; omega))

/-- Each number greater than the one ahead, and below n. -/
def rsg (n : Int) : Int → List Int → Bool
  | _, [] => true
  | last, x :: xs => if x ≤ last then false else if x ≥ n then false else rsg n x xs

def big : Nat := 9223372036854775807

theorem rising_l0 (d : Nat) : ∀ (i : Nat) (n last : Int) (l : List Int), l.length ≤ big → i ≤ l.length → l.length - i = d → Ev (fun k => graph_rising.l0 k n last l (l.length : Int) (i : Int)) (rsg n last (l.drop i)) := by
  induction d with
  | zero =>
    intro i n last l hb hi hd
    refine Ev.succ ?_; simp only [graph_rising.l0]
    rw [List.drop_of_length_le (by omega)]
    exact Ev.ifn (by omega) Ev.pure
  | succ d ih =>
    intro i n last l hb hi hd
    have h1 : i < l.length := by omega
    have hbb : big = 9223372036854775807 := rfl
    refine Ev.succ ?_; simp only [graph_rising.l0]
    refine Ev.ifp (by omega) (Ev.ifp (by omega) (Ev.ifp (by omega) ?_))
    rw [drop_getD l i 0 h1, show rd l (i : Int) = l.getD i 0 by simp [rd]]
    simp only [rsg]
    split
    · exact Ev.pure
    · split
      · exact Ev.pure
      · rw [wrap_nat (by omega)]
        exact ih (i + 1) _ _ l hb (by omega) (by omega)
theorem make1_ok (l : List Int) (n : Int) (h : l.length ≤ big) : Ev (fun k => graph_Make_1.f k l n) (!rsg n (-1) l) := by
  unfold graph_Make_1.f graph_rising.f
  exact Ev.bind (a := rsg n (-1) l) (by simpa using rising_l0 l.length 0 n (-1) l h (by omega) (by omega)) Ev.pure
theorem index_l0 (d : Nat) : ∀ (i : Nat) (n : Int) (s : List (List Int)), s.length ≤ big → (∀ l ∈ s, l.length ≤ big) → i ≤ s.length → s.length - i = d →
    ∃ v, Ev (fun k => slices_IndexFunc_int_int_graph_Make_1.l0 k s (s.length : Int) (i : Int) n) v ∧ decide (v ≥ 0) = (s.drop i).any (fun l => !rsg n (-1) l) := by
  induction d with
  | zero =>
    intro i n s hb hr hi hd
    refine ⟨-1, Ev.succ ?_, by rw [List.drop_of_length_le (by omega)]; rfl⟩
    simp only [slices_IndexFunc_int_int_graph_Make_1.l0]
    exact Ev.ifn (by omega) Ev.pure
  | succ d ih =>
    intro i n s hb hr hi hd
    have h1 : i < s.length := by omega
    have hbb : big = 9223372036854775807 := rfl
    have hrd : rd_L1 s (i : Int) = s.getD i [] := by simp [rd_L1]
    rw [drop_getD s i [] h1, List.any_cons]
    cases hv : rsg n (-1) (s.getD i []) with
    | false =>
      refine ⟨(i : Int), Ev.succ ?_, by simp⟩
      simp only [slices_IndexFunc_int_int_graph_Make_1.l0]
      refine Ev.ifp (by omega) (Ev.ifp (by omega) (Ev.ifp (by omega) ?_))
      refine Ev.bind (make1_ok _ n (by rw [hrd]; exact hr _ (getD_mem h1))) ?_
      rw [hrd, hv]
      exact Ev.ifp rfl Ev.pure
    | true =>
      obtain ⟨v, he, hd'⟩ := ih (i + 1) n s hb hr (by omega) (by omega)
      refine ⟨v, Ev.succ ?_, by simpa using hd'⟩
      simp only [slices_IndexFunc_int_int_graph_Make_1.l0]
      refine Ev.ifp (by omega) (Ev.ifp (by omega) (Ev.ifp (by omega) ?_))
      refine Ev.bind (make1_ok _ n (by rw [hrd]; exact hr _ (getD_mem h1))) ?_
      rw [hrd, hv]
      refine Ev.ifn (by decide) ?_
      rw [wrap_nat (by omega)]; exact he
theorem contains_ok (s : List (List Int)) (n : Int) (hb : s.length ≤ big) (hr : ∀ l ∈ s, l.length ≤ big) : Ev (fun k => slices_ContainsFunc_int_int_graph_Make_1.f k s n) (s.any (fun l => !rsg n (-1) l)) := by
  obtain ⟨v, he, hd⟩ := index_l0 s.length 0 n s hb hr (by omega) (by omega)
  unfold slices_ContainsFunc_int_int_graph_Make_1.f slices_IndexFunc_int_int_graph_Make_1.f
  have hd' : decide (v ≥ 0) = s.any (fun l => !rsg n (-1) l) := by simpa using hd
  exact (Ev.bind (h := fun _ t => some (decide (t ≥ 0))) (by simpa using he) Ev.pure).of_eq hd'

/-- May these lists be a graph's ways on? -/
def goodb (s : List (List Int)) : Bool := decide (1 ≤ s.length) && (decide (s.length ≤ 64) && s.all (rsg (s.length : Int) (-1)))
/-- A graph's ways on. -/
structure Gr (S : List (List Nat)) : Prop where
  pos : 0 < S.length
  le : S.length ≤ 64
  row : ∀ i, i < S.length → (S.getD i []).Pairwise (· < ·) ∧ ∀ y ∈ S.getD i [], y < S.length
/-- Where blocks come from. -/
def pr (S : List (List Nat)) : List (List Nat) := (List.range S.length).map fun j => (List.range S.length).filter fun i => decide (j ∈ S.getD i [])

theorem rsg_spec : ∀ (l : List Int) (n last : Int), rsg n last l = true → l.Pairwise (· < ·) ∧ (∀ x ∈ l, last < x ∧ x < n) := by
  intro l
  induction l with
  | nil => intro n last _; simp
  | cons x l ih =>
    intro n last h
    simp only [rsg] at h
    split at h
    · cases h
    · split at h
      · cases h
      · obtain ⟨h1, h2⟩ := ih n x h
        refine ⟨List.pairwise_cons.mpr ⟨fun y hy => (h2 y hy).1, h1⟩, fun y hy => ?_⟩
        rcases List.mem_cons.mp hy with rfl | hy
        · omega
        · have := h2 y hy; omega
theorem rsg_of : ∀ (l : List Int) (n last : Int), l.Pairwise (· < ·) → (∀ x ∈ l, last < x ∧ x < n) → rsg n last l = true := by
  intro l
  induction l with
  | nil => intro n last _ _; rfl
  | cons x l ih =>
    intro n last h h2
    have h3 := h2 x (List.mem_cons_self ..)
    simp only [rsg]
    rw [if_neg (by omega), if_neg (by omega)]
    obtain ⟨h4, h5⟩ := List.pairwise_cons.mp h
    exact ih n x h5 (fun y hy => ⟨h4 y hy, (h2 y (List.mem_cons_of_mem _ hy)).2⟩)
theorem good_gr {s : List (List Int)} (h : goodb s = true) : ∃ S, Gr S ∧ s = up2 S := by
  simp only [goodb, Bool.and_eq_true, decide_eq_true_eq, List.all_eq_true] at h
  obtain ⟨h1, h2, h3⟩ := h
  have hr : ∀ l ∈ s, up (l.map Int.toNat) = l := by
    intro l hl
    have := rsg_spec l _ _ (h3 l hl)
    simp only [up, List.map_map]
    conv => rhs; rw [← List.map_id l]
    exact List.map_congr_left (fun x hx => by have := (this.2 x hx).1; simp; omega)
  have hs : up2 (s.map (fun l => l.map Int.toNat)) = s := by
    simp only [up2, List.map_map]
    conv => rhs; rw [← List.map_id s]
    exact List.map_congr_left (fun l hl => hr l hl)
  refine ⟨s.map (fun l => l.map Int.toNat), ⟨by simp; omega, by simpa using h2, fun i hi => ?_⟩, hs.symm⟩
  have hi' : i < s.length := by simpa using hi
  have hl := getD_mem (d := []) hi'
  have hq : (s.map (fun l => l.map Int.toNat)).getD i [] = (s.getD i []).map Int.toNat := by
    simp only [List.getD_eq_getElem?_getD, List.getElem?_map, List.getElem?_eq_getElem hi']; rfl
  have h4 := rsg_spec _ _ _ (h3 _ hl)
  rw [hq]
  refine ⟨List.pairwise_map.mpr (h4.1.imp_of_mem (fun ha hb hab => by have := h4.2 _ ha; have := h4.2 _ hb; omega)), fun y hy => ?_⟩
  obtain ⟨x, hx, rfl⟩ := List.mem_map.mp hy
  have := h4.2 x hx
  simp; omega
theorem gr_good {S : List (List Nat)} (h : Gr S) : goodb (up2 S) = true := by
  simp only [goodb, Bool.and_eq_true, decide_eq_true_eq, List.all_eq_true, up2_length]
  refine ⟨h.pos, h.le, fun l hl => ?_⟩
  obtain ⟨r, hr, rfl⟩ := List.mem_map.mp hl
  obtain ⟨i, hi, hri⟩ := List.getElem_of_mem hr
  have h2 := h.row i hi
  rw [List.getD_eq_getElem?_getD, List.getElem?_eq_getElem hi, hri] at h2
  simp only [Option.getD_some] at h2
  refine rsg_of _ _ _ (List.pairwise_map.mpr (h2.1.imp (fun h => by omega))) (fun x hx => ?_)
  obtain ⟨y, hy, rfl⟩ := List.mem_map.mp hx
  have := h2.2 y hy; omega

theorem pw_len (n : Nat) : ∀ (l : List Nat) (lo : Nat), l.Pairwise (· < ·) → (∀ x ∈ l, lo ≤ x ∧ x < n) → lo ≤ n → l.length + lo ≤ n := by
  intro l
  induction l with
  | nil => intro lo _ _ h; simpa using h
  | cons x l ih =>
    intro lo h h2 hlo
    obtain ⟨h4, h5⟩ := List.pairwise_cons.mp h
    have h3 := h2 x (List.mem_cons_self ..)
    have := ih (x + 1) h5 (fun y hy => ⟨h4 y hy, (h2 y (List.mem_cons_of_mem _ hy)).2⟩) (by omega)
    simp only [List.length_cons]; omega
theorem gr_len {S : List (List Nat)} (h : Gr S) {i : Nat} (hi : i < S.length) : (S.getD i []).length ≤ 64 := by
  have := pw_len S.length _ 0 (h.row i hi).1 (fun x hx => ⟨Nat.zero_le _, (h.row i hi).2 x hx⟩) (Nat.zero_le _)
  have := h.le; omega
/-! #### the ways back -/
theorem gr_nodup {S : List (List Nat)} (h : Gr S) {i : Nat} (hi : i < S.length) : (S.getD i []).Nodup := (h.row i hi).1.imp (fun h => Nat.ne_of_lt h)
/-- The ways back when i rows are gone through, and m of row i. -/
def prAt (S : List (List Nat)) (i m j : Nat) : List Nat := (List.range i).filter (fun i => decide (j ∈ S.getD i [])) ++ if j ∈ (S.getD i []).take m then [i] else []
def prI (S : List (List Nat)) (i m : Nat) : List (List Int) := (List.range S.length).map fun j => up (prAt S i m j)
theorem prI_succ (S : List (List Nat)) (i : Nat) : prI S i (S.getD i []).length = prI S (i + 1) 0 := by
  unfold prI
  refine List.map_congr_left (fun j _ => ?_)
  simp only [prAt, List.take_length, List.take_zero, List.range_succ, List.filter_append, List.not_mem_nil, if_false, List.append_nil]
  congr 2
  by_cases hj : j ∈ S.getD i []
  · rw [if_pos hj, List.filter_cons_of_pos (by simpa using hj)]; rfl
  · rw [if_neg hj, List.filter_cons_of_neg (by simpa using hj)]; rfl
theorem preds_end {S : List (List Nat)} : prI S S.length 0 = up2 (pr S) := by
  simp only [prI, pr, up2, List.map_map]
  refine List.map_congr_left (fun j _ => ?_)
  simp [prAt]
theorem preds_l1 {S : List (List Nat)} (h : Gr S) (i : Nat) (hi : i < S.length) (v : List (List Int)) (H : Ev (fun k => graph_preds.l0 k (prI S (i + 1) 0) (up2 S) (S.length : Int) ((i + 1 : Nat) : Int)) v) (d : Nat) :
    ∀ m, m ≤ (S.getD i []).length → (S.getD i []).length - m = d → Ev (fun k => graph_preds.l1 k (prI S i m) (i : Int) (up2 S) (S.length : Int) (i : Int) (up (S.getD i [])) ((S.getD i []).length : Int) (m : Int)) v := by
  have hle := h.le
  have hlen := gr_len h hi
  induction d with
  | zero =>
    intro m hm hd
    refine Ev.succ ?_; simp only [graph_preds.l1]
    refine Ev.ifn (by omega) ?_
    rw [wrap_nat (by omega), show m = (S.getD i []).length by omega, prI_succ]
    exact H
  | succ d ih =>
    intro m hm hd
    have h1 : m < (S.getD i []).length := by omega
    refine Ev.succ ?_; simp only [graph_preds.l1]
    rw [rd_up]
    have hy := (h.row i hi).2 _ (getD_mem (d := 0) h1)
    have hyn : (S.getD i []).getD m 0 ∉ (S.getD i []).take m := by
      intro hc
      have h3 : (S.getD i []).Nodup := gr_nodup h hi
      have h2 := take_getD _ m 0 h1
      have h4 : ((S.getD i []).take (m + 1)).Nodup := h3.sublist (List.take_sublist _ _)
      rw [h2, List.nodup_append] at h4
      exact h4.2.2 _ hc _ (List.mem_singleton.mpr rfl) rfl
    generalize hyv : (S.getD i []).getD m 0 = y at hy hyn
    have hrow : rd_L1 (prI S i m) (y : Int) = up (prAt S i m y) := by
      simp only [rd_L1, Int.toNat_natCast, prI]
      exact getD_map_range _ _ _ _ hy
    have hpl : (prAt S i m y).length ≤ 65 := by
      simp only [prAt, List.length_append]
      have := List.length_filter_le (fun i => decide (y ∈ S.getD i [])) (List.range i)
      simp only [List.length_range] at this
      split
      · rw [List.length_singleton]; omega
      · rw [List.length_nil]; omega
    refine Ev.ifp (by omega) (Ev.ifp (by omega) (Ev.ifp (by rw [up_length]; omega) (Ev.ifp (by omega) (Ev.ifp (by simp [prI]; omega) ?_))))
    rw [hrow]
    refine Ev.ifp (by rw [up_length]; omega) ?_
    have hset : (prI S i m).set y (up (prAt S i m y) ++ [(i : Int)]) = prI S i (m + 1) := by
      refine set_map_range _ _ _ _ _ ?_ (fun j hj => ?_)
      · simp only [prAt]
        rw [take_getD _ m 0 h1, hyv, if_neg hyn, if_pos (by simp)]
        simp [up]
      · simp only [prAt]
        rw [take_getD _ m 0 h1, hyv]
        congr 2
        simp [hj]
    rw [Int.toNat_natCast, hset, wrap_nat (by omega)]
    exact ih (m + 1) (by omega) (by omega)
theorem preds_l0 {S : List (List Nat)} (h : Gr S) (d : Nat) : ∀ i, i ≤ S.length → S.length - i = d → Ev (fun k => graph_preds.l0 k (prI S i 0) (up2 S) (S.length : Int) (i : Int)) (up2 (pr S)) := by
  have hle := h.le
  induction d with
  | zero =>
    intro i hi hd
    refine Ev.succ ?_; simp only [graph_preds.l0]
    refine Ev.ifn (by omega) ?_
    rw [show i = S.length by omega, preds_end]
    exact Ev.pure
  | succ d ih =>
    intro i hi hd
    refine Ev.succ ?_; simp only [graph_preds.l0]
    refine Ev.ifp (by omega) (Ev.ifp (by omega) (Ev.ifp (by simp; omega) ?_))
    rw [rdL_up, up_length]
    exact preds_l1 h i (by omega) _ (ih (i + 1) (by omega) (by omega)) _ 0 (by omega) rfl
theorem preds_ok {S : List (List Nat)} (h : Gr S) : Ev (fun k => graph_preds.f k (up2 S)) (up2 (pr S)) := by
  have hle := h.le
  unfold graph_preds.f
  refine Ev.ifp (by omega) (Ev.ifp (by simp; omega) ?_)
  have h0 := preds_l0 h S.length 0 (by omega) (by omega)
  have e : List.replicate (((up2 S).length : Int)).toNat ([] : List Int) = prI S 0 0 := by
    simp only [up2_length, Int.toNat_natCast, prI]
    apply List.ext_getElem
    · simp
    · intro j h1 h2; simp [prAt]
  rw [e, up2_length]
  exact h0

/-! #### graph.Make -/
theorem clone_ok (l : List Int) (h : l.length < 17592186044416) : slices_Clone_int_int.f l = some l := by
  simp [slices_Clone_int_int.f, h]
theorem make_l0 {S : List (List Nat)} (h : Gr S) (d : Nat) : ∀ i, i ≤ S.length → S.length - i = d → Ev (fun k => graph_Make.l0 k (up2 (S.take i)) (up2 S) (S.length : Int) (i : Int)) (up2 S, up2 (pr S), 0) := by
  have hle := h.le
  induction d with
  | zero =>
    intro i hi hd
    refine Ev.succ ?_; simp only [graph_Make.l0]
    refine Ev.ifn (by omega) ?_
    rw [List.take_of_length_le (by omega)]
    exact Ev.bind (preds_ok h) Ev.pure
  | succ d ih =>
    intro i hi hd
    have h1 : i < S.length := by omega
    have hlen := gr_len h h1
    refine Ev.succ ?_; simp only [graph_Make.l0]
    refine Ev.ifp (by omega) (Ev.ifp (by omega) (Ev.ifp (by simp; omega) ?_))
    rw [rdL_up, clone_ok _ (by rw [up_length]; omega)]
    simp only [Option.bind_some]
    refine Ev.ifp (by simp; omega) ?_
    have e : up2 (S.take i) ++ [up (S.getD i [])] = up2 (S.take (i + 1)) := by rw [take_getD S i [] h1]; simp [up2]
    rw [e, wrap_nat (by omega)]
    exact ih (i + 1) (by omega) (by omega)
theorem make_ok {S : List (List Nat)} (h : Gr S) : Ev (fun k => graph_Make.f k (up2 S)) (up2 S, up2 (pr S), 0) := by
  have hle := h.le; have hpos := h.pos
  have hg := gr_good h
  simp only [goodb, Bool.and_eq_true, decide_eq_true_eq, List.all_eq_true] at hg
  unfold graph_Make.f
  refine Ev.ifn (by simp; omega) (Ev.ifn (by simp; omega) ?_)
  have hrow : ∀ l ∈ up2 S, l.length ≤ big := by
    intro l hl
    obtain ⟨r, hr, rfl⟩ := List.mem_map.mp hl
    obtain ⟨i, hi, hri⟩ := List.getElem_of_mem hr
    have hsub := gr_len h hi
    rw [List.getD_eq_getElem?_getD, List.getElem?_eq_getElem hi, hri, Option.getD_some] at hsub
    rw [up_length]; simp only [big]; omega
  refine Ev.bind (contains_ok (up2 S) _ (by simp [big]; omega) hrow) ?_
  have e : (up2 S).any (fun l => !rsg ((up2 S).length : Int) (-1) l) = false := by
    rw [List.any_eq_false]
    intro l hl; rw [hg.2.2 l hl]; decide
  rw [e]
  refine Ev.succ ?_; simp only [graph_Make.j0]
  refine Ev.ifn (by decide) (Ev.ifp (by omega) (Ev.ifp (by simp; omega) ?_))
  simpa using make_l0 h S.length 0 (by omega) (by omega)
theorem make_bad {s : List (List Int)} (hb : s.length ≤ big) (hr : ∀ l ∈ s, l.length ≤ big) (h : goodb s = false) : Ev (fun k => graph_Make.f k s) ([], [], 5) := by
  unfold graph_Make.f
  have hj : ∀ n, Ev (fun k => graph_Make.j0 k s true n) (([] : List (List Int)), ([] : List (List Int)), (5 : Int)) := by
    intro n; refine Ev.succ ?_; simp only [graph_Make.j0]; exact Ev.ifp trivial Ev.pure
  by_cases h1 : (s.length : Int) < 1
  · exact Ev.ifp h1 (hj _)
  · refine Ev.ifn h1 ?_
    by_cases h2 : (s.length : Int) > 64
    · exact Ev.ifp h2 (hj _)
    · refine Ev.ifn h2 (Ev.bind (contains_ok s _ hb hr) ?_)
      have e : s.any (fun l => !rsg (s.length : Int) (-1) l) = true := by
        simp only [goodb] at h
        rw [decide_eq_true (by omega), decide_eq_true (by omega), Bool.true_and, Bool.true_and] at h
        rw [← Bool.not_eq_false, List.any_eq_false]
        intro hc
        have : s.all (rsg (s.length : Int) (-1)) = true := List.all_eq_true.mpr (fun l hl => by have := hc l hl; simpa using this)
        rw [h] at this; cases this
      rw [e]; exact hj _

theorem equal_l0 (d : Nat) : ∀ (i : Nat) (a b : List Int), a.length = b.length → a.length ≤ big → i ≤ a.length → a.length - i = d → Ev (fun k => slices_Equal_int_int.l0 k a b (a.length : Int) (i : Int)) (decide (a.drop i = b.drop i)) := by
  induction d with
  | zero =>
    intro i a b hl hb hi hd
    refine Ev.succ ?_; simp only [slices_Equal_int_int.l0]
    refine Ev.ifn (by omega) ?_
    rw [List.drop_of_length_le (by omega), List.drop_of_length_le (by omega)]
    exact Ev.pure.of_eq (by simp)
  | succ d ih =>
    intro i a b hl hb hi hd
    have hbb : big = 9223372036854775807 := rfl
    refine Ev.succ ?_; simp only [slices_Equal_int_int.l0]
    refine Ev.ifp (by omega) (Ev.ifp (by omega) (Ev.ifp (by omega) (Ev.ifp (by omega) ?_)))
    rw [show rd a (i : Int) = a.getD i 0 by simp [rd], show rd b (i : Int) = b.getD i 0 by simp [rd]]
    rw [drop_getD a i 0 (by omega), drop_getD b i 0 (by omega)]
    by_cases h : a.getD i 0 = b.getD i 0
    · refine Ev.ifp h ?_
      rw [wrap_nat (by omega)]
      exact (ih (i + 1) a b hl hb (by omega) (by omega)).of_eq (by rw [h]; simp)
    · refine Ev.ifn h (Ev.pure.of_eq ?_)
      rw [decide_eq_false]
      intro he; injection he with h1 _; exact h h1
theorem equal_ok (a b : List Int) (hb : a.length ≤ big) : Ev (fun k => slices_Equal_int_int.f k a b) (decide (a = b)) := by
  unfold slices_Equal_int_int.f
  by_cases h : a.length = b.length
  · refine Ev.ifp (by omega) ?_
    simpa using equal_l0 a.length 0 a b h hb (by omega) (by omega)
  · refine Ev.ifn (by omega) (Ev.pure.of_eq ?_)
    rw [decide_eq_false]
    intro he; exact h (by rw [he])
theorem eqf_l0 (d : Nat) : ∀ (i : Nat) (a b : List (List Int)), a.length = b.length → a.length ≤ big → (∀ l ∈ a, l.length ≤ big) → i ≤ a.length → a.length - i = d → Ev (fun k => slices_EqualFunc_int_int_int_int_slices_Equal_int_int.l0 k b a (a.length : Int) (i : Int)) (decide (a.drop i = b.drop i)) := by
  induction d with
  | zero =>
    intro i a b hl hb hr hi hd
    refine Ev.succ ?_; simp only [slices_EqualFunc_int_int_int_int_slices_Equal_int_int.l0]
    refine Ev.ifn (by omega) ?_
    rw [List.drop_of_length_le (by omega), List.drop_of_length_le (by omega)]
    exact Ev.pure.of_eq (by simp)
  | succ d ih =>
    intro i a b hl hb hr hi hd
    have hbb : big = 9223372036854775807 := rfl
    refine Ev.succ ?_; simp only [slices_EqualFunc_int_int_int_int_slices_Equal_int_int.l0]
    refine Ev.ifp (by omega) (Ev.ifp (by omega) (Ev.ifp (by omega) (Ev.ifp (by omega) ?_)))
    rw [show rd_L1 a (i : Int) = a.getD i [] by simp [rd_L1], show rd_L1 b (i : Int) = b.getD i [] by simp [rd_L1]]
    refine Ev.bind (equal_ok _ _ (hr _ (getD_mem (by omega)))) ?_
    rw [drop_getD a i [] (by omega), drop_getD b i [] (by omega)]
    by_cases h : a.getD i [] = b.getD i []
    · refine Ev.ifp (by rw [decide_eq_true h]) ?_
      rw [wrap_nat (by omega)]
      exact (ih (i + 1) a b hl hb hr (by omega) (by omega)).of_eq (by rw [h]; simp)
    · refine Ev.ifn (by rw [decide_eq_false h]; decide) (Ev.pure.of_eq ?_)
      rw [decide_eq_false]
      intro he; injection he with h1 _; exact h h1
theorem eqf_ok (a b : List (List Int)) (hb : a.length ≤ big) (hr : ∀ l ∈ a, l.length ≤ big) : Ev (fun k => slices_EqualFunc_int_int_int_int_slices_Equal_int_int.f k a b) (decide (a = b)) := by
  unfold slices_EqualFunc_int_int_int_int_slices_Equal_int_int.f
  by_cases h : a.length = b.length
  · refine Ev.ifp (by omega) ?_
    simpa using eqf_l0 a.length 0 a b h hb hr (by omega) (by omega)
  · refine Ev.ifn (by omega) (Ev.pure.of_eq ?_)
    rw [decide_eq_false]
    intro he; exact h (by rw [he])

theorem pr_length (S : List (List Nat)) : (pr S).length = S.length := by simp [pr]
theorem pr_getD {S : List (List Nat)} {j : Nat} (hj : j < S.length) : (pr S).getD j [] = (List.range S.length).filter fun i => decide (j ∈ S.getD i []) := getD_map_range _ _ _ _ hj
theorem mem_pr {S : List (List Nat)} {i j : Nat} (hj : j < S.length) : i ∈ (pr S).getD j [] ↔ i < S.length ∧ j ∈ S.getD i [] := by
  rw [pr_getD hj]; simp
theorem gr_pr {S : List (List Nat)} (h : Gr S) : Gr (pr S) := by
  refine ⟨by rw [pr_length]; exact h.pos, by rw [pr_length]; exact h.le, fun i hi => ?_⟩
  rw [pr_length] at hi ⊢
  refine ⟨?_, fun y hy => ((mem_pr hi).mp hy).1⟩
  rw [pr_getD hi]
  exact List.pairwise_lt_range.filter _
theorem sorted_ext : ∀ (a b : List Nat), a.Pairwise (· < ·) → b.Pairwise (· < ·) → (∀ x, x ∈ a ↔ x ∈ b) → a = b := by
  intro a
  induction a with
  | nil =>
    intro b _ _ h
    cases b with
    | nil => rfl
    | cons y b => exact absurd ((h y).mpr (List.mem_cons_self ..)) (by simp)
  | cons x a ih =>
    intro b ha hb h
    cases b with
    | nil => exact absurd ((h x).mp (List.mem_cons_self ..)) (by simp)
    | cons y b =>
      obtain ⟨ha1, ha2⟩ := List.pairwise_cons.mp ha
      obtain ⟨hb1, hb2⟩ := List.pairwise_cons.mp hb
      have e : x = y := by
        rcases List.mem_cons.mp ((h x).mp (List.mem_cons_self ..)) with e | e
        · exact e
        · rcases List.mem_cons.mp ((h y).mpr (List.mem_cons_self ..)) with e' | e'
          · exact e'.symm
          · have := hb1 x e; have := ha1 y e'; omega
      subst e
      rw [ih b ha2 hb2 (fun z => ⟨fun hz => ?_, fun hz => ?_⟩)]
      · rcases List.mem_cons.mp ((h z).mp (List.mem_cons_of_mem _ hz)) with e | e
        · have := ha1 z hz; omega
        · exact e
      · rcases List.mem_cons.mp ((h z).mpr (List.mem_cons_of_mem _ hz)) with e | e
        · have := hb1 z hz; omega
        · exact e
theorem pr_pr {S : List (List Nat)} (h : Gr S) : pr (pr S) = S := by
  have h1 := gr_pr h; have h2 := gr_pr h1
  refine ext_getD [] (by rw [pr_length, pr_length]) (fun i hi => ?_)
  rw [pr_length, pr_length] at hi
  refine sorted_ext _ _ (h2.row i (by rw [pr_length, pr_length]; exact hi)).1 (h.row i hi).1 (fun x => ?_)
  rw [mem_pr (by rw [pr_length]; exact hi), pr_length]
  constructor
  · rintro ⟨hx, hm⟩; exact ((mem_pr hx).mp hm).2
  · intro hm
    have hx := (h.row i hi).2 x hm
    exact ⟨hx, (mem_pr hx).mpr ⟨hi, hm⟩⟩
theorem gr_rows {S : List (List Nat)} (h : Gr S) : ∀ l ∈ up2 S, l.length ≤ 64 := by
  intro l hl
  obtain ⟨r, hr, rfl⟩ := List.mem_map.mp hl
  obtain ⟨i, hi, hri⟩ := List.getElem_of_mem hr
  have hsub := gr_len h hi
  rw [List.getD_eq_getElem?_getD, List.getElem?_eq_getElem hi, hri, Option.getD_some] at hsub
  rw [up_length]; exact hsub

theorem may_ok {S : List (List Nat)} (h : Gr S) (p : List (List Int)) : Ev (fun k => graph_May.f k (up2 S) p) (decide (up2 (pr S) = p)) := by
  unfold graph_May.f
  refine Ev.bind (make_ok h) ?_
  refine Ev.ifp rfl ?_
  have hle := (gr_pr h).le
  exact Ev.bind (eqf_ok _ _ (by rw [up2_length]; simp only [big]; omega) (fun l hl => by have := gr_rows (gr_pr h) l hl; simp only [big]; omega)) Ev.pure
theorem may_bad {s : List (List Int)} (hb : s.length ≤ big) (hr : ∀ l ∈ s, l.length ≤ big) (h : goodb s = false) (p : List (List Int)) : Ev (fun k => graph_May.f k s p) false := by
  unfold graph_May.f
  refine Ev.bind (make_bad hb hr h) ?_
  exact Ev.ifn (by decide) Ev.pure
end Go.Proofs.Ythahaajmgnoebaa.GP
namespace Go.Proofs.Ythahaajmgnoebaa.GP

abbrev Sn := Nat → Bool
def upd (s : Sn) (x : Nat) : Sn := fun z => if z = x then true else s z
theorem upd_self (s : Sn) (x : Nat) : upd s x x = true := by simp [upd]
theorem upd_true {s : Sn} {x z : Nat} : upd s x z = true ↔ z = x ∨ s z = true := by unfold upd; split <;> simp_all
/-- How many of the first n are not seen. -/
def cnt (n : Nat) (s : Sn) : Nat := ((List.range n).filter (fun z => !s z)).length
theorem filter_le {α : Type} (l : List α) (p q : α → Bool) (h : ∀ x ∈ l, p x = true → q x = true) : (l.filter p).length ≤ (l.filter q).length := by
  induction l with
  | nil => simp
  | cons x l ih =>
    have h1 := ih (fun y hy => h y (List.mem_cons_of_mem _ hy))
    have h2 := h x (List.mem_cons_self ..)
    cases hp : p x with
    | false => rw [List.filter_cons_of_neg (by simp [hp])]; by_cases hq : q x = true
               · rw [List.filter_cons_of_pos hq, List.length_cons]; omega
               · rw [List.filter_cons_of_neg hq]; exact h1
    | true => rw [List.filter_cons_of_pos hp, List.filter_cons_of_pos (h2 hp), List.length_cons, List.length_cons]; omega
theorem filter_lt {α : Type} (l : List α) (p q : α → Bool) (h : ∀ x ∈ l, p x = true → q x = true) (y : α) (hy : y ∈ l) (h1 : p y = false) (h2 : q y = true) : (l.filter p).length < (l.filter q).length := by
  induction l with
  | nil => simp at hy
  | cons x l ih =>
    have hl := filter_le l p q (fun y hy => h y (List.mem_cons_of_mem _ hy))
    by_cases hx : p x = true
    · have hne : y ≠ x := by rintro rfl; rw [hx] at h1; cases h1
      have hyl : y ∈ l := by rcases List.mem_cons.mp hy with e | e; exact absurd e hne; exact e
      have := ih (fun y hy => h y (List.mem_cons_of_mem _ hy)) hyl
      rw [List.filter_cons_of_pos hx, List.filter_cons_of_pos (h x (List.mem_cons_self ..) hx), List.length_cons, List.length_cons]; omega
    · rw [List.filter_cons_of_neg hx]
      rcases List.mem_cons.mp hy with e | e
      · subst e; rw [List.filter_cons_of_pos h2, List.length_cons]; omega
      · have := ih (fun y hy => h y (List.mem_cons_of_mem _ hy)) e
        by_cases hq : q x = true
        · rw [List.filter_cons_of_pos hq, List.length_cons]; omega
        · rw [List.filter_cons_of_neg hq]; exact this
theorem cnt_le {n : Nat} {s t : Sn} (h : ∀ z, s z = true → t z = true) : cnt n t ≤ cnt n s :=
  filter_le _ _ _ (fun x _ hx => by cases hs : s x; rfl; rw [h x hs] at hx; cases hx)
theorem cnt_lt {n : Nat} {s t : Sn} (h : ∀ z, s z = true → t z = true) {y : Nat} (hy : y < n) (h1 : s y = false) (h2 : t y = true) : cnt n t < cnt n s :=
  filter_lt _ _ _ (fun x _ hx => by cases hs : s x; rfl; rw [h x hs] at hx; cases hx) y (List.mem_range.mpr hy) (by rw [h2]; rfl) (by rw [h1]; rfl)
theorem filter_upd (l : List Nat) (hn : l.Nodup) (s : Sn) (x : Nat) (hx : x ∈ l) (hs : s x = false) : (l.filter (fun z => !upd s x z)).length + 1 = (l.filter (fun z => !s z)).length := by
  induction l with
  | nil => simp at hx
  | cons y l ih =>
    obtain ⟨hy, hl⟩ := List.nodup_cons.mp hn
    by_cases e : y = x
    · subst e
      have e2 : l.filter (fun z => !upd s y z) = l.filter (fun z => !s z) := List.filter_congr (fun z hz => by unfold upd; rw [if_neg (by rintro rfl; exact hy hz)])
      rw [List.filter_cons_of_neg (by simp [upd]), List.filter_cons_of_pos (by simp [hs]), e2]; rfl
    · have hx' : x ∈ l := by rcases List.mem_cons.mp hx with e' | e'; exact absurd e'.symm e; exact e'
      have e3 : upd s x y = s y := by unfold upd; rw [if_neg e]
      have := ih hl hx'
      cases hsy : s y with
      | true => rw [List.filter_cons_of_neg (by simp [e3, hsy]), List.filter_cons_of_neg (by simp [hsy])]; exact this
      | false => rw [List.filter_cons_of_pos (by simp [e3, hsy]), List.filter_cons_of_pos (by simp [hsy]), List.length_cons, List.length_cons]; omega
theorem cnt_upd {n : Nat} {s : Sn} {x : Nat} (hx : x < n) (hs : s x = false) : cnt n (upd s x) + 1 = cnt n s :=
  filter_upd _ List.nodup_range s x (List.mem_range.mpr hx) hs
theorem cnt_pos {n : Nat} {s : Sn} {x : Nat} (hx : x < n) (hs : s x = false) : 0 < cnt n s := by have := cnt_upd hx hs; omega

/-- On from a block: what is seen, and what was left, the first one first. -/
def visit (S : List (List Nat)) : Nat → Nat → Sn × List Nat → Sn × List Nat
  | 0, _, st => st
  | f + 1, x, st =>
    let r := (S.getD x []).foldl (fun st y => if st.1 y = true then st else visit S f y st) (upd st.1 x, st.2)
    (r.1, r.2 ++ [x])
def steps (S : List (List Nat)) (f : Nat) (l : List Nat) (st : Sn × List Nat) : Sn × List Nat := l.foldl (fun st y => if st.1 y = true then st else visit S f y st) st
theorem visit_succ (S : List (List Nat)) (f x : Nat) (st : Sn × List Nat) : visit S (f + 1) x st = ((steps S f (S.getD x []) (upd st.1 x, st.2)).1, (steps S f (S.getD x []) (upd st.1 x, st.2)).2 ++ [x]) := rfl
theorem steps_cons (S : List (List Nat)) (f y : Nat) (l : List Nat) (st : Sn × List Nat) : steps S f (y :: l) st = steps S f l (if st.1 y = true then st else visit S f y st) := rfl

/-- What can be reached. -/
inductive Rch (S : List (List Nat)) (w : Int) (r : Nat) : Nat → Prop
  | base : (r : Int) ≠ w → Rch S w r r
  | step {a y : Nat} : Rch S w r a → y ∈ S.getD a [] → (y : Int) ≠ w → Rch S w r y
theorem Rch.lt {S : List (List Nat)} (h : Gr S) {w : Int} {r : Nat} (hr : r < S.length) {x : Nat} (hx : Rch S w r x) : x < S.length := by
  induction hx with
  | base _ => exact hr
  | @step a y _ hy _ ih => exact (h.row a ih).2 y hy
theorem Rch.trans {S : List (List Nat)} {w : Int} {r a b : Nat} (h1 : Rch S w r a) (h2 : Rch S w a b) : Rch S w r b := by
  induction h2 with
  | base _ => exact h1
  | step _ hy hw ih => exact .step ih hy hw

/-- What a way through comes to. -/
structure Vis (S : List (List Nat)) (n : Nat) (st r : Sn × List Nat) : Prop where
  new : ∃ l, r.2 = st.2 ++ l ∧ (∀ z, r.1 z = true ↔ st.1 z = true ∨ z ∈ l) ∧ l.Nodup ∧ (∀ z ∈ l, st.1 z = false ∧ z < n) ∧ l.length + cnt n r.1 = cnt n st.1
theorem Vis.mono {S : List (List Nat)} {n : Nat} {st r : Sn × List Nat} (h : Vis S n st r) {z : Nat} (hz : st.1 z = true) : r.1 z = true := by
  obtain ⟨l, _, h2, _⟩ := h.new; exact (h2 z).mpr (.inl hz)
theorem Vis.refl (S : List (List Nat)) (n : Nat) (st : Sn × List Nat) : Vis S n st st := ⟨⟨[], by simp, by simp, by simp, by simp, by simp⟩⟩
theorem Vis.trans {S : List (List Nat)} {n : Nat} {a b c : Sn × List Nat} (h1 : Vis S n a b) (h2 : Vis S n b c) : Vis S n a c := by
  obtain ⟨l1, e1, s1, n1, u1, c1⟩ := h1.new
  obtain ⟨l2, e2, s2, n2, u2, c2⟩ := h2.new
  refine ⟨⟨l1 ++ l2, by rw [e2, e1, List.append_assoc], fun z => ?_, ?_, fun z hz => ?_, by rw [List.length_append]; omega⟩⟩
  · rw [s2, s1, List.mem_append, or_assoc]
  · rw [List.nodup_append]
    refine ⟨n1, n2, fun x hx y hy e => ?_⟩
    subst e
    have := (u2 _ hy).1
    rw [(s1 x).mpr (.inr hx)] at this; cases this
  · rcases List.mem_append.mp hz with hz | hz
    · exact u1 z hz
    · refine ⟨?_, (u2 z hz).2⟩
      cases ha : a.1 z with
      | false => rfl
      | true => have := (u2 z hz).1; rw [(s1 z).mpr (.inl ha)] at this; cases this

mutual
theorem visit_vis {S : List (List Nat)} (h : Gr S) : ∀ (f x : Nat) (st : Sn × List Nat), x < S.length → st.1 x = false → cnt S.length st.1 ≤ f → Vis S S.length st (visit S f x st) ∧ (visit S f x st).1 x = true
  | 0, x, st, hx, hs, hc => by have := cnt_pos hx hs; omega
  | f + 1, x, st, hx, hs, hc => by
    have hu := cnt_upd hx hs
    have h1 := steps_vis h f (S.getD x []) (upd st.1 x, st.2) (h.row x hx).2 (by show cnt _ (upd st.1 x) ≤ f; omega)
    rw [visit_succ]
    obtain ⟨l, e, s, nd, u, c⟩ := h1.new
    have hxl : x ∉ l := fun hm => by have := (u x hm).1; simp [upd] at this
    refine ⟨⟨⟨l ++ [x], by (show (steps S f (S.getD x []) (upd st.1 x, st.2)).2 ++ [x] = _); rw [e, List.append_assoc], fun z => ?_, ?_, fun z hz => ?_, ?_⟩⟩, (s x).mpr (.inl (upd_self _ _))⟩
    · show _ = true ↔ _
      rw [s]
      show upd st.1 x z = true ∨ _ ↔ _
      rw [upd_true, List.mem_append, List.mem_singleton]
      constructor
      · rintro ((e | e) | e)
        · exact .inr (.inr e)
        · exact .inl e
        · exact .inr (.inl e)
      · rintro (e | e | e)
        · exact .inl (.inr e)
        · exact .inr e
        · exact .inl (.inl e)
    · rw [List.nodup_append]
      refine ⟨nd, by simp, fun a ha b hb e' => ?_⟩
      rw [List.mem_singleton] at hb; rw [e', hb] at ha; exact hxl ha
    · rcases List.mem_append.mp hz with hz | hz
      · refine ⟨?_, (u z hz).2⟩
        have h2 := (u z hz).1
        cases ha : st.1 z with
        | false => rfl
        | true => have : upd st.1 x z = true := upd_true.mpr (.inr ha)
                  have h3 : upd st.1 x z = false := h2
                  rw [this] at h3; cases h3
      · rw [List.mem_singleton] at hz; subst hz; exact ⟨hs, hx⟩
    · rw [List.length_append, List.length_singleton]
      have c' : l.length + cnt S.length (steps S f (S.getD x []) (upd st.1 x, st.2)).1 = cnt S.length (upd st.1 x) := c
      show _ + cnt S.length (steps S f (S.getD x []) (upd st.1 x, st.2)).1 = _
      omega
theorem steps_vis {S : List (List Nat)} (h : Gr S) : ∀ (f : Nat) (l : List Nat) (st : Sn × List Nat), (∀ y ∈ l, y < S.length) → cnt S.length st.1 ≤ f → Vis S S.length st (steps S f l st)
  | _, [], st, _, _ => Vis.refl _ _ _
  | f, y :: l, st, hl, hc => by
    rw [steps_cons]
    by_cases hy : st.1 y = true
    · rw [if_pos hy]; exact steps_vis h f l st (fun z hz => hl z (List.mem_cons_of_mem _ hz)) hc
    · rw [if_neg hy]
      have h1 := (visit_vis h f y st (hl y (List.mem_cons_self ..)) (by simpa using hy) hc).1
      have h2 := steps_vis h f l (visit S f y st) (fun z hz => hl z (List.mem_cons_of_mem _ hz)) (Nat.le_trans (cnt_le (fun z hz => h1.mono hz)) hc)
      exact h1.trans h2
end
theorem steps_seen {S : List (List Nat)} (h : Gr S) (f : Nat) : ∀ (l : List Nat) (st : Sn × List Nat), (∀ y ∈ l, y < S.length) → cnt S.length st.1 ≤ f → ∀ y ∈ l, (steps S f l st).1 y = true := by
  intro l
  induction l with
  | nil => intro st _ _ y hy; simp at hy
  | cons x l ih =>
    intro st hl hc y hy
    rw [steps_cons]
    have hl' : ∀ z ∈ l, z < S.length := fun z hz => hl z (List.mem_cons_of_mem _ hz)
    by_cases hx : st.1 x = true
    · rw [if_pos hx]
      rcases List.mem_cons.mp hy with e | e
      · subst e; exact (steps_vis h f l st hl' hc).mono hx
      · exact ih st hl' hc y e
    · rw [if_neg hx]
      obtain ⟨h1, h2⟩ := visit_vis h f x st (hl x (List.mem_cons_self ..)) (by simpa using hx) hc
      have hc' : cnt S.length (visit S f x st).1 ≤ f := Nat.le_trans (cnt_le (fun z hz => h1.mono hz)) hc
      rcases List.mem_cons.mp hy with e | e
      · subst e; exact (steps_vis h f l _ hl' hc').mono h2
      · exact ih _ hl' hc' y e


/-! #### what is reached -/
mutual
theorem visit_rch {S : List (List Nat)} (r : Nat) : ∀ (f x : Nat) (st : Sn × List Nat), Rch S (-1) r x → ∀ z, (visit S f x st).1 z = true → st.1 z = true ∨ Rch S (-1) r z
  | 0, _, _, _, z, hz => .inl hz
  | f + 1, x, st, hx, z, hz => by
    rw [visit_succ] at hz
    rcases steps_rch r f (S.getD x []) (upd st.1 x, st.2) (fun y hy => .step hx hy (by omega)) z hz with e | e
    · rcases upd_true.mp e with e | e
      · subst e; exact .inr hx
      · exact .inl e
    · exact .inr e
theorem steps_rch {S : List (List Nat)} (r : Nat) : ∀ (f : Nat) (l : List Nat) (st : Sn × List Nat), (∀ y ∈ l, Rch S (-1) r y) → ∀ z, (steps S f l st).1 z = true → st.1 z = true ∨ Rch S (-1) r z
  | _, [], _, _, z, hz => .inl hz
  | f, y :: l, st, hl, z, hz => by
    rw [steps_cons] at hz
    have hl' : ∀ y ∈ l, Rch S (-1) r y := fun z hz => hl z (List.mem_cons_of_mem _ hz)
    by_cases hy : st.1 y = true
    · rw [if_pos hy] at hz; exact steps_rch r f l st hl' z hz
    · rw [if_neg hy] at hz
      rcases steps_rch r f l _ hl' z hz with e | e
      · exact visit_rch r f y st (hl y (List.mem_cons_self ..)) z e
      · exact .inr e
end
mutual
theorem visit_closed {S : List (List Nat)} (h : Gr S) : ∀ (f x : Nat) (st : Sn × List Nat), x < S.length → st.1 x = false → cnt S.length st.1 ≤ f → ∀ z, (visit S f x st).1 z = true → st.1 z = true ∨ ∀ y ∈ S.getD z [], (visit S f x st).1 y = true
  | 0, x, st, hx, hs, hc, _, _ => by have := cnt_pos hx hs; omega
  | f + 1, x, st, hx, hs, hc, z, hz => by
    have hu := cnt_upd hx hs
    have hcu : cnt S.length (upd st.1 x) ≤ f := by omega
    rw [visit_succ] at hz ⊢
    rcases steps_closed h f (S.getD x []) (upd st.1 x, st.2) (h.row x hx).2 hcu z hz with e | e
    · rcases upd_true.mp e with e | e
      · subst e; exact .inr (steps_seen h f _ _ (h.row z hx).2 hcu)
      · exact .inl e
    · exact .inr e
theorem steps_closed {S : List (List Nat)} (h : Gr S) : ∀ (f : Nat) (l : List Nat) (st : Sn × List Nat), (∀ y ∈ l, y < S.length) → cnt S.length st.1 ≤ f → ∀ z, (steps S f l st).1 z = true → st.1 z = true ∨ ∀ y ∈ S.getD z [], (steps S f l st).1 y = true
  | _, [], _, _, _, z, hz => .inl hz
  | f, y :: l, st, hl, hc, z, hz => by
    rw [steps_cons] at hz ⊢
    have hl' : ∀ y ∈ l, y < S.length := fun z hz => hl z (List.mem_cons_of_mem _ hz)
    by_cases hy : st.1 y = true
    · rw [if_pos hy] at hz ⊢; exact steps_closed h f l st hl' hc z hz
    · rw [if_neg hy] at hz ⊢
      have hy' : st.1 y = false := by simpa using hy
      have h1 := (visit_vis h f y st (hl y (List.mem_cons_self ..)) hy' hc).1
      have hc' : cnt S.length (visit S f y st).1 ≤ f := Nat.le_trans (cnt_le (fun z hz => h1.mono hz)) hc
      rcases steps_closed h f l _ hl' hc' z hz with e | e
      · rcases visit_closed h f y st (hl y (List.mem_cons_self ..)) hy' hc z e with e | e
        · exact .inl e
        · exact .inr (fun w hw => (steps_vis h f l _ hl' hc').mono (e w hw))
      · exact .inr e
end

/-! #### where all ways go up -/
/-- Each block ahead of which all those at which it goes on are left. -/
def Ord (S : List (List Nat)) (o : List Nat) : Prop := ∀ l a t, o = l ++ a :: t → ∀ y ∈ S.getD a [], y ∈ l
theorem ord_snoc {S : List (List Nat)} {o : List Nat} {x : Nat} (h : Ord S o) (hx : ∀ y ∈ S.getD x [], y ∈ o) : Ord S (o ++ [x]) := by
  intro l a t e y hy
  rcases List.append_eq_append_iff.mp e with ⟨m, hm1, hm2⟩ | ⟨m, hm1, hm2⟩
  · cases m with
    | nil =>
      have e2 : x :: [] = a :: t := by simpa using hm2
      injection e2 with e3 e4
      subst e3
      rw [List.append_nil] at hm1; subst hm1
      exact hx y hy
    | cons b m =>
      have e2 : [x] = (b :: m) ++ a :: t := hm2
      have := congrArg List.length e2
      simp only [List.length_append, List.length_cons, List.length_nil] at this; omega
  · cases m with
    | nil =>
      have e2 : a :: t = [x] := by simpa using hm2
      injection e2 with e3 e4
      subst e3
      rw [List.append_nil] at hm1; subst hm1
      exact hx y hy
    | cons b m =>
      have e2 : a :: t = (b :: m) ++ [x] := hm2
      injection e2 with e3 e4
      subst e3
      exact h l a m hm1 y hy
mutual
theorem visit_ord {S : List (List Nat)} (h : Gr S) (up : ∀ i, ∀ y ∈ S.getD i [], i < y) : ∀ (f x : Nat) (st : Sn × List Nat), x < S.length → st.1 x = false → cnt S.length st.1 ≤ f → Ord S st.2 → (∀ z, st.1 z = true → z ∈ st.2 ∨ z < x) → Ord S (visit S f x st).2
  | 0, x, st, hx, hs, hc, _, _ => by have := cnt_pos hx hs; omega
  | f + 1, x, st, hx, hs, hc, ho, hlt => by
    have hu := cnt_upd hx hs
    have hcu : cnt S.length (upd st.1 x) ≤ f := by omega
    rw [visit_succ]
    have hy := up x
    obtain ⟨h1, h2⟩ := steps_ord h up f x (S.getD x []) (upd st.1 x, st.2) (fun y hm => ⟨(h.row x hx).2 y hm, hy y hm⟩) hcu ho (fun z hz => by
      rcases upd_true.mp hz with e | e
      · exact .inr (Nat.le_of_eq e)
      · rcases hlt z e with e | e
        · exact .inl e
        · exact .inr (Nat.le_of_lt e))
    refine ord_snoc h1 (fun y hm => ?_)
    rcases h2 y (steps_seen h f _ _ (h.row x hx).2 hcu y hm) with e | e
    · exact e
    · have := hy y hm; omega
theorem steps_ord {S : List (List Nat)} (h : Gr S) (up : ∀ i, ∀ y ∈ S.getD i [], i < y) : ∀ (f x : Nat) (l : List Nat) (st : Sn × List Nat), (∀ y ∈ l, y < S.length ∧ x < y) → cnt S.length st.1 ≤ f → Ord S st.2 → (∀ z, st.1 z = true → z ∈ st.2 ∨ z ≤ x) → Ord S (steps S f l st).2 ∧ ∀ z, (steps S f l st).1 z = true → z ∈ (steps S f l st).2 ∨ z ≤ x
  | _, _, [], _, _, _, ho, hlt => ⟨ho, hlt⟩
  | f, x, y :: l, st, hl, hc, ho, hlt => by
    rw [steps_cons]
    have hl' : ∀ y ∈ l, y < S.length ∧ x < y := fun z hz => hl z (List.mem_cons_of_mem _ hz)
    by_cases hy : st.1 y = true
    · rw [if_pos hy]; exact steps_ord h up f x l st hl' hc ho hlt
    · rw [if_neg hy]
      have hy' : st.1 y = false := by simpa using hy
      obtain ⟨hyn, hyx⟩ := hl y (List.mem_cons_self ..)
      have h1 := (visit_vis h f y st hyn hy' hc).1
      have hc' : cnt S.length (visit S f y st).1 ≤ f := Nat.le_trans (cnt_le (fun z hz => h1.mono hz)) hc
      refine steps_ord h up f x l _ hl' hc' (visit_ord h up f y st hyn hy' hc ho (fun z hz => ?_)) (fun z hz => ?_)
      · rcases hlt z hz with e | e
        · exact .inl e
        · exact .inr (by omega)
      · obtain ⟨n, e1, e2, _⟩ := h1.new
        rw [e1]
        rcases (e2 z).mp hz with e | e
        · rcases hlt z e with e | e
          · exact .inl (List.mem_append.mpr (.inl e))
          · exact .inr e
        · exact .inl (List.mem_append.mpr (.inr e))
end

/-! #### the order from a root -/
def none' : Sn := fun _ => false
theorem cnt_none (n : Nat) : cnt n none' = n := by
  show ((List.range n).filter (fun z => !none' z)).length = n
  rw [show (List.range n).filter (fun z => !none' z) = List.range n from List.filter_eq_self.mpr (fun _ _ => rfl), List.length_range]
def dfs (S : List (List Nat)) (r : Nat) : List Nat := (visit S S.length r (none', [])).2.reverse
theorem dfs_vis {S : List (List Nat)} (h : Gr S) {r : Nat} (hr : r < S.length) : Vis S S.length (none', []) (visit S S.length r (none', [])) ∧ (visit S S.length r (none', [])).1 r = true :=
  visit_vis h S.length r (none', []) hr rfl (Nat.le_of_eq (cnt_none _))
theorem dfs_seen {S : List (List Nat)} (h : Gr S) {r : Nat} (hr : r < S.length) (z : Nat) : z ∈ dfs S r ↔ (visit S S.length r (none', [])).1 z = true := by
  obtain ⟨l, e1, e2, _⟩ := (dfs_vis h hr).1.new
  rw [dfs, List.mem_reverse, e1, e2, List.nil_append]
  constructor
  · exact .inr
  · rintro (e | e)
    · cases e
    · exact e
theorem dfs_mem {S : List (List Nat)} (h : Gr S) {r : Nat} (hr : r < S.length) (z : Nat) : z ∈ dfs S r ↔ Rch S (-1) r z := by
  rw [dfs_seen h hr]
  constructor
  · intro hz
    rcases visit_rch r S.length r (none', []) (.base (by omega)) z hz with e | e
    · cases e
    · exact e
  · intro hz
    induction hz with
    | base _ => exact (dfs_vis h hr).2
    | @step a y _ hy _ ih =>
      rcases visit_closed h S.length r (none', []) hr rfl (Nat.le_of_eq (cnt_none _)) a ih with e | e
      · cases e
      · exact e y hy
theorem dfs_nodup {S : List (List Nat)} (h : Gr S) {r : Nat} (hr : r < S.length) : (dfs S r).Nodup := by
  obtain ⟨l, e1, _, e3, _⟩ := (dfs_vis h hr).1.new
  rw [dfs, e1, List.nil_append]
  exact (List.reverse_perm l).nodup_iff.mpr e3
theorem dfs_lt {S : List (List Nat)} (h : Gr S) {r : Nat} (hr : r < S.length) : ∀ z ∈ dfs S r, z < S.length := by
  intro z hz
  exact ((dfs_mem h hr z).mp hz).lt h hr
theorem dfs_head {S : List (List Nat)} (h : Gr S) (r : Nat) : ∃ l, dfs S r = r :: l := by
  obtain ⟨f, hf⟩ : ∃ f, S.length = f + 1 := ⟨S.length - 1, by have := h.pos; omega⟩
  refine ⟨(steps S f (S.getD r []) (upd none' r, [])).2.reverse, ?_⟩
  rw [dfs, hf, visit_succ]
  simp
theorem dfs_len {S : List (List Nat)} (h : Gr S) {r : Nat} (hr : r < S.length) : (dfs S r).length ≤ S.length := by
  obtain ⟨l, e1, _, _, _, e5⟩ := (dfs_vis h hr).1.new
  have : cnt S.length none' = S.length := cnt_none _
  have e6 : l.length + cnt S.length (visit S S.length r (none', [])).1 = cnt S.length none' := e5
  rw [dfs, e1, List.length_reverse, List.nil_append]; omega
theorem dfs_ord {S : List (List Nat)} (h : Gr S) (hup : ∀ i, ∀ y ∈ S.getD i [], i < y) {r : Nat} (hr : r < S.length) : ∀ l a t, dfs S r = t ++ a :: l → ∀ y ∈ S.getD a [], y ∈ l := by
  intro l a t e y hy
  have h1 := visit_ord h hup S.length r (none', []) hr rfl (Nat.le_of_eq (cnt_none _)) (fun l a t e => by simp at e) (fun z hz => by cases hz)
  have e2 : (visit S S.length r (none', [])).2 = l.reverse ++ a :: t.reverse := by
    have := congrArg List.reverse e
    rw [dfs, List.reverse_reverse] at this
    rw [this]; simp
  exact List.mem_reverse.mp (h1 _ _ _ e2 y hy)

/-! #### dominance -/
/-- Blocks' places, and from where each is come to from ahead. -/
structure Pl (S : List (List Nat)) (r : Nat) (at_ par : Nat → Nat) : Prop where
  inj : ∀ x y, Rch S (-1) r x → Rch S (-1) r y → at_ x = at_ y → x = y
  par : ∀ x, Rch S (-1) r x → x ≠ r → Rch S (-1) r (par x) ∧ x ∈ S.getD (par x) [] ∧ at_ (par x) < at_ x
/-- A block dominates another one. -/
def Dm (S : List (List Nat)) (r d x : Nat) : Prop := Rch S (-1) r x ∧ ¬ Rch S (d : Int) r x
section
variable {S : List (List Nat)} {r : Nat}
theorem rch_no {d : Nat} : ¬ Rch S (d : Int) r d := fun h => by
  cases h with
  | base h => exact h rfl
  | step _ _ h => exact h rfl
theorem rch_all {w : Int} {x : Nat} (h : Rch S w r x) : Rch S (-1) r x := by
  induction h with
  | base _ => exact .base (by omega)
  | step _ hy _ ih => exact .step ih hy (by omega)
theorem rch_root {w : Int} {x : Nat} (h : Rch S w r x) : Rch S w r r := by
  induction h with
  | base h => exact .base h
  | step _ _ _ ih => exact ih
theorem Dm.rch {d x : Nat} (h : Dm S r d x) : Rch S (-1) r x := h.1
theorem dm_refl {x : Nat} (h : Rch S (-1) r x) : Dm S r x x := ⟨h, rch_no⟩
theorem dm_root {x : Nat} (h : Rch S (-1) r x) : Dm S r r x := ⟨h, fun h' => rch_no (rch_root h')⟩
theorem dm_of_root {d : Nat} (h : Dm S r d r) : d = r := by
  refine Classical.byContradiction (fun hn => h.2 (.base (by omega)))
theorem dm_pred {d x p : Nat} (h : Dm S r d x) (hd : d ≠ x) (hp : Rch S (-1) r p) (hx : x ∈ S.getD p []) : Dm S r d p :=
  ⟨hp, fun h' => h.2 (.step h' hx (by omega))⟩
theorem dm_past {a b c : Nat} (h : Rch S (a : Int) r c) : Dm S r b c → Rch S (a : Int) r b := by
  induction h with
  | base h => intro hb; rw [dm_of_root hb]; exact .base h
  | @step q y hq hy hw ih =>
    intro hb
    by_cases e : b = y
    · subst e; exact .step hq hy hw
    · exact ih (dm_pred hb e (rch_all hq) hy)
theorem dm_trans {a b c : Nat} (h1 : Dm S r a b) (h2 : Dm S r b c) : Dm S r a c := ⟨h2.1, fun h => h1.2 (dm_past h h2)⟩
theorem dm_rch {d x : Nat} (h : Dm S r d x) : Rch S (-1) r d := by
  refine Classical.byContradiction (fun hn => h.2 ?_)
  have : ∀ y, Rch S (-1) r y → Rch S (d : Int) r y := by
    intro y hy
    induction hy with
    | base h0 => exact .base (fun e => hn (by rw [← Int.ofNat_inj.mp e]; exact .base h0))
    | @step a y ha hya _ ih => exact .step ih hya (fun e => hn (by rw [← Int.ofNat_inj.mp e]; exact .step ha hya (by omega)))
  exact this x h.1
variable {at_ par : Nat → Nat}
theorem dm_le (hP : Pl S r at_ par) {d : Nat} : ∀ (n x : Nat), at_ x ≤ n → Dm S r d x → at_ d ≤ at_ x := by
  intro n
  induction n with
  | zero =>
    intro x hx h
    by_cases e : d = x
    · subst e; omega
    · by_cases er : x = r
      · subst er; exact absurd (dm_of_root h) e
      · have := (hP.par x h.1 er).2.2; omega
  | succ n ih =>
    intro x hx h
    by_cases e : d = x
    · subst e; omega
    · by_cases er : x = r
      · subst er; exact absurd (dm_of_root h) e
      · obtain ⟨h1, h2, h3⟩ := hP.par x h.1 er
        have := ih (par x) (by omega) (dm_pred h e h1 h2); omega
theorem dm_antisymm (hP : Pl S r at_ par) {a b : Nat} (h1 : Dm S r a b) (h2 : Dm S r b a) : a = b :=
  hP.inj a b h2.1 h1.1 (Nat.le_antisymm (dm_le hP _ _ (Nat.le_refl _) h1) (dm_le hP _ _ (Nat.le_refl _) h2))
/-- The nearest of those that dominate a block. -/
def Idm (S : List (List Nat)) (r z x : Nat) : Prop := Dm S r z x ∧ z ≠ x ∧ ∀ d, Dm S r d x → d ≠ x → Dm S r d z
theorem idm_unique (hP : Pl S r at_ par) {z z' x : Nat} (h : Idm S r z x) (h' : Idm S r z' x) : z = z' :=
  dm_antisymm hP (h'.2.2 z h.1 h.2.1) (h.2.2 z' h'.1 h'.2.1)

/-! #### trees that are being made -/
abbrev Tr := Nat → Option Nat
/-- One is got to from another one, going up. -/
inductive An (T : Tr) (r c : Nat) : Nat → Prop
  | refl {y : Nat} : T c = some y → An T r c c
  | up {x y : Nat} : T x = some y → x ≠ r → An T r c y → An T r c x
inductive Pa (r z : Nat) (par : Nat → Nat) : Nat → Prop
  | refl : Pa r z par z
  | step {x : Nat} : x ≠ r → Pa r z par (par x) → Pa r z par x
theorem Pa.trans {a b c : Nat} (h1 : Pa r a par b) (h2 : Pa r b par c) : Pa r a par c := by
  induction h2 with
  | refl => exact h1
  | step h _ ih => exact .step h ih
structure Inv (S : List (List Nat)) (r : Nat) (at_ par : Nat → Nat) (T : Tr) : Prop where
  root : T r = some r
  rch : ∀ x y, T x = some y → Rch S (-1) r x
  lt : ∀ x y, T x = some y → x ≠ r → at_ y < at_ x ∧ ∃ z, T y = some z
  pa : ∀ x y, T x = some y → x ≠ r → Pa r y par x
  dom : ∀ x y, T x = some y → x ≠ r → ∀ d, Dm S r d x → d ≠ x → Dm S r d y
  low : ∀ x y, T x = some y → x ≠ r → ∀ c, (∀ p z, x ∈ S.getD p [] → T p = some z → An T r c p) → at_ c ≤ at_ y
theorem An.has {T : Tr} {c x : Nat} (h : An T r c x) : ∃ y, T x = some y := by
  cases h with
  | refl h => exact ⟨_, h⟩
  | up h _ _ => exact ⟨_, h⟩
theorem An.top {T : Tr} {c x : Nat} (h : An T r c x) : ∃ y, T c = some y := by
  induction h with
  | refl h => exact ⟨_, h⟩
  | up _ _ _ ih => exact ih
theorem An.trans {T : Tr} {a b c : Nat} (h1 : An T r a b) (h2 : An T r b c) : An T r a c := by
  induction h2 with
  | refl h => exact h1
  | up h hr _ ih => exact .up h hr ih
theorem An.le {T : Tr} (hI : Inv S r at_ par T) {c x : Nat} (h : An T r c x) : at_ c ≤ at_ x := by
  induction h with
  | refl h => exact Nat.le_refl _
  | up h hr _ ih => have := (hI.lt _ _ h hr).1; omega
theorem An.lt {T : Tr} (hI : Inv S r at_ par T) {c x : Nat} (h : An T r c x) (hc : c ≠ x) : at_ c < at_ x := by
  cases h with
  | refl h => exact absurd rfl hc
  | up h hr h2 => have := (hI.lt _ _ h hr).1; have := h2.le hI; omega
theorem An.pa {T : Tr} (hI : Inv S r at_ par T) {c x : Nat} (h : An T r c x) : Pa r c par x := by
  induction h with
  | refl h => exact .refl
  | up h hr _ ih => exact ih.trans (hI.pa _ _ h hr)
theorem dm_an {T : Tr} (hI : Inv S r at_ par T) {d : Nat} : ∀ (n x y : Nat), at_ x ≤ n → T x = some y → Dm S r d x → An T r d x := by
  intro n
  induction n with
  | zero =>
    intro x y hn hx h
    by_cases e : d = x
    · subst e; exact .refl hx
    · by_cases er : x = r
      · subst er; exact absurd (dm_of_root h) e
      · have := (hI.lt x y hx er).1; omega
  | succ n ih =>
    intro x y hn hx h
    by_cases e : d = x
    · subst e; exact .refl hx
    · by_cases er : x = r
      · subst er; exact absurd (dm_of_root h) e
      · obtain ⟨h1, z, h2⟩ := hI.lt x y hx er
        exact .up hx er (ih y z (by omega) h2 (hI.dom x y hx er d h e))
theorem an_dm {T : Tr} (hI : Inv S r at_ par T) {d m q : Nat} (h : An T r m q) : Dm S r d q → at_ d ≤ at_ m → Dm S r d m := by
  induction h with
  | refl h => exact fun h _ => h
  | @up x y h hr h2 ih =>
    intro hd hl
    have h3 := (hI.lt _ _ h hr).1
    have h4 := h2.le hI
    exact ih (hI.dom _ _ h hr d hd (by rintro rfl; omega)) hl
/-- What is right as it is: it is over all from which one comes. -/
def Fx (S : List (List Nat)) (r : Nat) (T : Tr) (x : Nat) : Prop := ∃ z, T x = some z ∧ ∀ p y, x ∈ S.getD p [] → T p = some y → An T r z p
def put (T : Tr) (x m : Nat) : Tr := fun y => if y = x then some m else T y
theorem put_self (T : Tr) (x m : Nat) : put T x m x = some m := by simp [put]
theorem put_ne {T : Tr} {x m y : Nat} (h : y ≠ x) : put T x m y = T y := by simp [put, h]
/-- The nearest one to which one comes from all. -/
def Best (S : List (List Nat)) (r : Nat) (T : Tr) (x m : Nat) : Prop :=
  (∀ p y, x ∈ S.getD p [] → T p = some y → An T r m p) ∧ ∀ c, (∀ p y, x ∈ S.getD p [] → T p = some y → An T r c p) → An T r c m
theorem best_at (hP : Pl S r at_ par) {T : Tr} (hI : Inv S r at_ par T) {x m : Nat} (hx : Rch S (-1) r x) (hr : x ≠ r) (hF : ∀ y, Rch S (-1) r y → at_ y < at_ x → y ≠ r → Fx S r T y) (hB : Best S r T x m) :
    An T r m (par x) ∧ at_ m < at_ x ∧ Pa r m par x := by
  obtain ⟨h1, h2, h3⟩ := hP.par x hx hr
  have h4 : ∃ y, T (par x) = some y := by
    by_cases e : par x = r
    · rw [e]; exact ⟨_, hI.root⟩
    · obtain ⟨z, hz, _⟩ := hF _ h1 h3 e; exact ⟨z, hz⟩
  obtain ⟨y, h4⟩ := h4
  have h5 := hB.1 _ _ h2 h4
  have h6 := h5.le hI
  exact ⟨h5, by omega, .step hr (h5.pa hI)⟩
theorem best_up (hP : Pl S r at_ par) {T : Tr} (hI : Inv S r at_ par T) {x m y : Nat} (hF : ∀ y, Rch S (-1) r y → at_ y < at_ x → y ≠ r → Fx S r T y) (hm : at_ m ≤ at_ y) {v : Nat} (hpa : Pa r y par v) :
    Rch S (-1) r v → at_ v < at_ x → An T r m v → An T r m y := by
  induction hpa with
  | refl => exact fun _ _ h => h
  | @step v hv hp ih =>
    intro hR hv2 ha
    obtain ⟨h1, h2, h3⟩ := hP.par v hR hv
    have hle : at_ y ≤ at_ (par v) := by
      have : ∀ {w : Nat}, Pa r y par w → Rch S (-1) r w → at_ y ≤ at_ w := by
        intro w hw
        induction hw with
        | refl => exact fun _ => Nat.le_refl _
        | @step w hw _ ih => intro hR'; obtain ⟨g1, _, g3⟩ := hP.par w hR' hw; have := ih g1; omega
      exact this hp h1
    obtain ⟨z, hz, hf⟩ := hF v hR hv2 hv
    have hz2 : ∃ y, T (par v) = some y := by
      by_cases e : par v = r
      · rw [e]; exact ⟨_, hI.root⟩
      · obtain ⟨z, hz, _⟩ := hF _ h1 (by omega) e; exact ⟨z, hz⟩
    obtain ⟨z2, hz2⟩ := hz2
    refine ih h1 (by omega) ?_
    cases ha with
    | refl _ => omega
    | @up _ y' h _ h5 =>
      rw [hz] at h; cases h
      exact h5.trans (hf _ _ h2 hz2)
/-- One more step keeps all of it, and goes up. -/
theorem step_inv (hP : Pl S r at_ par) {T : Tr} (hI : Inv S r at_ par T) {x m : Nat} (hx : Rch S (-1) r x) (hr : x ≠ r) (hF : ∀ y, Rch S (-1) r y → at_ y < at_ x → y ≠ r → Fx S r T y) (hB : Best S r T x m) :
    Inv S r at_ par (put T x m) ∧ ∀ y, T x = some y → m ≠ y → at_ m < at_ y := by
  obtain ⟨h1, h2, h3⟩ := best_at hP hI hx hr hF hB
  obtain ⟨p1, p2, p3⟩ := hP.par x hx hr
  obtain ⟨mz, hmz⟩ := h1.top
  have hmx : m ≠ x := by rintro rfl; omega
  have hup : ∀ y, T x = some y → An T r m y := by
    intro y hy
    have hl := hI.low x y hy hr m hB.1
    have hpa := hI.pa x y hy hr
    cases hpa with
    | refl => have := (hI.lt x x hy hr).1; omega
    | step _ hpa => exact best_up hP hI hF hl hpa p1 p3 h1
  have hdown : ∀ {c v : Nat}, An (put T x m) r c v → ∀ z, T v = some z → An T r c v := by
    intro c v h
    induction h with
    | @refl y h => intro z hz; exact .refl hz
    | @up v y h hv h5 ih =>
      intro z hz
      by_cases e : v = x
      · subst e
        rw [put_self] at h; cases h
        exact .up hz hv ((ih _ hmz).trans (hup _ hz))
      · rw [put_ne e, hz] at h; cases h
        obtain ⟨_, z2, h6⟩ := hI.lt v _ hz hv
        exact .up hz hv (ih _ h6)
  have hthere : ∀ v z, T v = some z → ∃ z', put T x m v = some z' := by
    intro v z hz
    by_cases e : v = x
    · subst e; exact ⟨_, put_self _ _ _⟩
    · exact ⟨z, by rw [put_ne e]; exact hz⟩
  refine ⟨⟨?_, ?_, ?_, ?_, ?_, ?_⟩, ?_⟩
  · rw [put_ne (fun e => hr e.symm)]; exact hI.root
  · intro v y hv
    by_cases e : v = x
    · subst e; exact hx
    · rw [put_ne e] at hv; exact hI.rch _ _ hv
  · intro v y hv hvr
    by_cases e : v = x
    · subst e
      rw [put_self] at hv; cases hv
      exact ⟨h2, mz, by rw [put_ne hmx]; exact hmz⟩
    · rw [put_ne e] at hv
      obtain ⟨h6, z, h7⟩ := hI.lt v y hv hvr
      exact ⟨h6, hthere _ _ h7⟩
  · intro v y hv hvr
    by_cases e : v = x
    · subst e
      rw [put_self] at hv; cases hv; exact h3
    · rw [put_ne e] at hv; exact hI.pa v y hv hvr
  · intro v y hv hvr d hd hdv
    by_cases e : v = x
    · subst e
      rw [put_self] at hv; cases hv
      have hall : ∀ p y, v ∈ S.getD p [] → T p = some y → An T r d p := fun p y hp hy => dm_an hI _ p y (Nat.le_refl _) hy (dm_pred hd hdv (hI.rch _ _ hy) hp)
      exact an_dm hI h1 (dm_pred hd hdv p1 p2) ((hB.2 d hall).le hI)
    · rw [put_ne e] at hv; exact hI.dom v y hv hvr d hd hdv
  · intro v y hv hvr c hc
    have hc' : ∀ p z, v ∈ S.getD p [] → T p = some z → An T r c p := by
      intro p z hp hz
      obtain ⟨z', hz'⟩ := hthere p z hz
      exact hdown (hc p z' hp hz') z hz
    by_cases e : v = x
    · subst e
      rw [put_self] at hv; cases hv
      exact (hB.2 c hc').le hI
    · rw [put_ne e] at hv; exact hI.low v y hv hvr c hc'
  · intro y hy hne
    exact (hup y hy).lt hI hne
/-- Where all is right, each entry is the nearest one that dominates. -/
theorem fix_idm {T : Tr} (hI : Inv S r at_ par T) (hF : ∀ y, Rch S (-1) r y → y ≠ r → Fx S r T y) : ∀ x z, T x = some z → x ≠ r → Idm S r z x := by
  have key : ∀ (c x : Nat), Rch S (c : Int) r x → An T r c x → False := by
    intro c x h
    induction h with
    | base h =>
      intro ha
      cases ha with
      | refl _ => exact h rfl
      | up _ h2 _ => exact h2 rfl
    | @step a x ha hx hw ih =>
      intro hA
      have haR := rch_all ha
      cases hA with
      | refl _ => exact hw rfl
      | @up _ z h2 hr h3 =>
        obtain ⟨z', hz', hf⟩ := hF x (.step haR hx (by omega)) hr
        rw [h2] at hz'; cases hz'
        have : ∃ y, T a = some y := by
          by_cases e : a = r
          · rw [e]; exact ⟨_, hI.root⟩
          · obtain ⟨y, hy, _⟩ := hF a haR e; exact ⟨y, hy⟩
        obtain ⟨y, hy⟩ := this
        exact ih (h3.trans (hf a y hx hy))
  intro x z hx hr
  have hR := hI.rch _ _ hx
  obtain ⟨h1, z2, h2⟩ := hI.lt x z hx hr
  refine ⟨⟨hR, fun h => key z x h (.up hx hr (.refl h2))⟩, by rintro rfl; omega, hI.dom x z hx hr⟩
end
end Go.Proofs.Ythahaajmgnoebaa.GP
namespace Go.Proofs.Ythahaajmgnoebaa.GP
open Go.RowKit Go.Proofs.Ythahaajmgnoebaa.G Go.Proofs.YthahaajmgnoebaaW.PrintWords

/-! #### slices.Reverse -/
def rv (l : List Int) (n i t : Nat) : Int := if t < i ∨ n ≤ t + i then l.getD (n - 1 - t) 0 else l.getD t 0
theorem rv_end (l : List Int) (n i : Nat) (hn : l.length = n) (hi : n ≤ 2 * i + 1) : (List.range n).map (rv l n i) = l.reverse := by
  apply ext_getD 0
  · simp [hn]
  · intro t ht
    rw [List.length_map, List.length_range] at ht
    rw [getD_map_range _ _ _ _ ht]
    have e1 : l.reverse.getD t 0 = l.getD (n - 1 - t) 0 := by
      rw [List.getD_eq_getElem?_getD, List.getD_eq_getElem?_getD, List.getElem?_reverse (by omega), hn]
    rw [e1]
    unfold rv
    split
    · rfl
    · next hc => rw [show n - 1 - t = t by omega]
theorem reverse_l0 (l : List Int) (n : Nat) (hn : l.length = n) (hb : n ≤ big) (d : Nat) : ∀ i, 2 * i ≤ n + 1 → n + 1 - 2 * i ≤ d → Ev (fun k => slices_Reverse_int_int.l0 k ((List.range n).map (rv l n i)) (i : Int) ((n : Int) - 1 - (i : Int))) l.reverse := by
  have hbb : big = 9223372036854775807 := rfl
  induction d with
  | zero =>
    intro i hi hd
    refine Ev.succ ?_; simp only [slices_Reverse_int_int.l0]
    refine Ev.ifn (by omega) ?_
    rw [rv_end l n i hn (by omega)]; exact Ev.pure
  | succ d ih =>
    intro i hi hd
    refine Ev.succ ?_; simp only [slices_Reverse_int_int.l0]
    by_cases hc : (i : Int) < (n : Int) - 1 - (i : Int)
    · refine Ev.ifp hc (Ev.ifp (by omega) (Ev.ifp (by simp; omega) (Ev.ifp (by omega) (Ev.ifp (by simp; omega) ?_))))
      have ej : (n : Int) - 1 - (i : Int) = ((n - 1 - i : Nat) : Int) := by omega
      rw [ej]
      have r1 : rd ((List.range n).map (rv l n i)) ((n - 1 - i : Nat) : Int) = l.getD (n - 1 - i) 0 := by
        simp only [rd, Int.toNat_natCast]
        rw [getD_map_range _ _ _ _ (by omega)]
        unfold rv; rw [if_neg (by omega)]
      have r2 : rd ((List.range n).map (rv l n i)) ((i : Nat) : Int) = l.getD i 0 := by
        simp only [rd, Int.toNat_natCast]
        rw [getD_map_range _ _ _ _ (by omega)]
        unfold rv; rw [if_neg (by omega)]
      rw [r1, r2, Int.toNat_natCast, Int.toNat_natCast]
      have s1 : ((List.range n).map (rv l n i)).set i (l.getD (n - 1 - i) 0) = (List.range n).map (fun t => if t = i then l.getD (n - 1 - i) 0 else rv l n i t) :=
        set_map_range _ _ _ _ _ (by simp) (fun j hj => by simp [hj])
      have s2 : ((List.range n).map (fun t => if t = i then l.getD (n - 1 - i) 0 else rv l n i t)).set (n - 1 - i) (l.getD i 0) = (List.range n).map (rv l n (i + 1)) := by
        refine set_map_range _ _ _ _ _ ?_ (fun j hj => ?_)
        · unfold rv; rw [if_pos (by omega), show n - 1 - (n - 1 - i) = i by omega]
        · by_cases e : j = i
          · subst e; rw [if_pos rfl]; unfold rv; rw [if_pos (by omega)]
          · rw [if_neg e]; unfold rv
            by_cases hq : j < i ∨ n ≤ j + i
            · rw [if_pos hq, if_pos (by omega)]
            · rw [if_neg hq, if_neg (by omega)]
      rw [s1, s2, wrap_nat (by omega), wrap_id (by omega) (by omega), show ((n - 1 - i : Nat) : Int) - 1 = (n : Int) - 1 - ((i + 1 : Nat) : Int) by omega]
      exact ih (i + 1) (by omega) (by omega)
    · refine Ev.ifn hc ?_
      rw [rv_end l n i hn (by omega)]; exact Ev.pure
theorem reverse_ok (l : List Int) (hb : l.length ≤ big) : Ev (fun k => slices_Reverse_int_int.f k l) l.reverse := by
  have hbb : big = 9223372036854775807 := rfl
  unfold slices_Reverse_int_int.f
  have e : l = (List.range l.length).map (rv l l.length 0) := by
    apply ext_getD 0
    · simp
    · intro t ht
      rw [getD_map_range _ _ _ _ ht]
      unfold rv; rw [if_neg (by omega)]
  have h := reverse_l0 l l.length rfl hb (l.length + 1) 0 (by omega) (by omega)
  rw [← e] at h
  rw [wrap_id (by omega) (by omega)]
  simpa using h

/-! #### the machine's state -/
def rb (s : Sn) : List Bool := (List.range 64).map s
def ri (nx : Nat → Nat) : List Int := (List.range 64).map (fun z => ((nx z : Nat) : Int))
def updn (nx : Nat → Nat) (x m : Nat) : Nat → Nat := fun z => if z = x then m else nx z
theorem rd_rb (s : Sn) {y : Nat} (h : y < 64) : rdOf false (rb s) (y : Int) = s y := by
  simp only [rdOf, Int.toNat_natCast, rb]; exact getD_map_range _ _ _ _ h
theorem rd_ri (nx : Nat → Nat) {y : Nat} (h : y < 64) : rd (ri nx) (y : Int) = ((nx y : Nat) : Int) := by
  simp only [rd, Int.toNat_natCast, ri]; exact getD_map_range 64 (fun z => ((nx z : Nat) : Int)) _ _ h
theorem set_rb (s : Sn) (y : Nat) : (rb s).set y true = rb (upd s y) :=
  set_map_range _ _ _ _ _ (by simp [upd]) (fun j hj => by simp [upd, hj])
theorem set_ri (nx : Nat → Nat) (x m : Nat) : (ri nx).set x (m : Int) = ri (updn nx x m) :=
  set_map_range _ _ _ _ _ (by simp [updn]) (fun j hj => by simp [updn, hj])
theorem up_snoc (l : List Nat) (x : Nat) : up (l ++ [x]) = up l ++ [(x : Int)] := by simp [up]
theorem rd_snoc (l : List Nat) (x : Nat) : rd (up (l ++ [x])) (l.length : Int) = (x : Int) := by
  rw [rd_up, List.getD_eq_getElem?_getD, List.getElem?_append_right (Nat.le_refl _)]; simp

def After (S : List (List Nat)) (P : List (List Int)) (sn : Sn) (nx : Nat → Nat) (o st : List Nat) (v : List Int) : Prop :=
  Ev (fun k => if ((up st).length : Int) > 0 then graph_Order.l0 k (rb sn) (ri nx) (up o) (up st) (up2 S) P else (slices_Reverse_int_int.f k (up o)).bind fun t => some t) v
theorem order_l0 {S : List (List Nat)} {P : List (List Int)} {sn : Sn} {nx : Nat → Nat} {o st : List Nat} {x : Nat} {v : List Int} (hb : st.length ≤ 64)
    (h : Ev (fun k => graph_Order.l1 k (rb sn) (ri nx) (up o) (up (st ++ [x])) (x : Int) (up2 S) P) v) : Ev (fun k => graph_Order.l0 k (rb sn) (ri nx) (up o) (up (st ++ [x])) (up2 S) P) v := by
  refine Ev.succ ?_; simp only [graph_Order.l0]
  have e : wrap64 (((up (st ++ [x])).length : Int) - 1) = (st.length : Int) := by
    rw [up_length, List.length_append, List.length_singleton, wrap_id (by omega) (by omega)]; omega
  rw [e, rd_snoc]
  exact Ev.ifp (by omega) (Ev.ifp (by rw [up_length, List.length_append, List.length_singleton]; omega) h)

theorem sim {S : List (List Nat)} (h : Gr S) (P : List (List Int)) (v : List Int) : ∀ (f x : Nat) (sn : Sn) (nx : Nat → Nat) (o st : List Nat), x < S.length → sn x = false → cnt S.length sn ≤ f → (∀ z, sn z = false → nx z = 0) →
    o.length + st.length + cnt S.length sn ≤ 64 →
    (∀ nx', (∀ z, (visit S f x (sn, o)).1 z = false → nx' z = 0) → (∀ z, sn z = true → nx' z = nx z) → After S P (visit S f x (sn, o)).1 nx' (visit S f x (sn, o)).2 st v) →
    Ev (fun k => graph_Order.l1 k (rb (upd sn x)) (ri nx) (up o) (up (st ++ [x])) (x : Int) (up2 S) P) v := by
  have hle := h.le
  intro f
  induction f with
  | zero => intro x sn nx o st hx hs hc; have := cnt_pos hx hs; omega
  | succ f ihf =>
    intro x sn nx o st hx hs hc hz0 hB hK
    have hu := cnt_upd hx hs
    have hdeg := gr_len h hx
    rw [visit_succ] at hK
    have inner : ∀ (m j : Nat) (sn1 : Sn) (nx1 : Nat → Nat) (o1 : List Nat), (S.getD x []).length - j = m → j ≤ (S.getD x []).length → nx1 x = j → sn1 x = true → (∀ z, sn1 z = false → nx1 z = 0) → cnt S.length sn1 ≤ f →
        o1.length + (st.length + 1) + cnt S.length sn1 ≤ 64 → (∀ z, sn z = true → sn1 z = true ∧ nx1 z = nx z) → steps S f ((S.getD x []).drop j) (sn1, o1) = steps S f (S.getD x []) (upd sn x, o) →
        Ev (fun k => graph_Order.l1 k (rb sn1) (ri nx1) (up o1) (up (st ++ [x])) (x : Int) (up2 S) P) v := by
      intro m
      induction m with
      | zero =>
        intro j sn1 nx1 o1 hm hj hnx hsx hzz hcc hbb hkeep heq
        refine Ev.succ ?_; simp only [graph_Order.l1]
        rw [rdL_up, up_length, rd_ri nx1 (by omega), hnx]
        refine Ev.ifp (by omega) (Ev.ifp (by omega) (Ev.ifp (by rw [up2_length]; omega) (Ev.ifn (by omega) (Ev.ifp (by rw [up_length]; omega) ?_))))
        simp only [Option.bind_some]
        have e : wrap64 (((up (st ++ [x])).length : Int) - 1) = (st.length : Int) := by
          rw [up_length, List.length_append, List.length_singleton, wrap_id (by omega) (by omega)]; omega
        rw [e, Int.toNat_natCast]
        refine Ev.ifp (by omega) (Ev.ifp (by rw [up_length, List.length_append, List.length_singleton]; omega) ?_)
        have e2 : (up (st ++ [x])).take st.length = up st := by rw [up_snoc]; simp [up]
        rw [e2, ← up_snoc]
        rw [List.drop_of_length_le (by omega)] at heq
        have e3 : steps S f (S.getD x []) (upd sn x, o) = (sn1, o1) := heq.symm
        rw [e3] at hK
        exact hK nx1 hzz (fun z hz => (hkeep z hz).2)
      | succ m ihm =>
        intro j sn1 nx1 o1 hm hj hnx hsx hzz hcc hbb hkeep heq
        have hj1 : j < (S.getD x []).length := by omega
        have hy := (h.row x hx).2 _ (getD_mem (d := 0) hj1)
        have hxS : sn x = false := hs
        rw [drop_getD _ j 0 hj1, steps_cons] at heq
        refine Ev.succ ?_; simp only [graph_Order.l1]
        rw [rdL_up, up_length, rd_ri nx1 (by omega), hnx, rd_up]
        generalize (S.getD x []).getD j 0 = y at hy heq
        refine Ev.ifp (by omega) (Ev.ifp (by omega) (Ev.ifp (by rw [up2_length]; omega) (Ev.ifp (by omega) (Ev.ifp (by omega) ?_))))
        rw [wrap_nat (by omega), Int.toNat_natCast, set_ri]
        simp only [Option.bind_some]
        refine Ev.ifp (by omega) (Ev.ifp (by omega) ?_)
        rw [rd_rb sn1 (by omega)]
        have hkeep2 : ∀ z, sn z = true → sn1 z = true ∧ updn nx1 x (j + 1) z = nx z := fun z hz => by
          refine ⟨(hkeep z hz).1, ?_⟩
          unfold updn; rw [if_neg (by rintro rfl; rw [hz] at hxS; cases hxS)]; exact (hkeep z hz).2
        have hzz2 : ∀ z, sn1 z = false → updn nx1 x (j + 1) z = 0 := fun z hz => by
          unfold updn; rw [if_neg (by rintro rfl; rw [hz] at hsx; cases hsx)]; exact hzz z hz
        by_cases hys : sn1 y = true
        · refine Ev.ifp hys ?_
          rw [if_pos hys] at heq
          exact ihm (j + 1) sn1 (updn nx1 x (j + 1)) o1 (by omega) (by omega) (by simp [updn]) hsx hzz2 hcc hbb hkeep2 heq
        · refine Ev.ifn hys (Ev.ifp (by rw [up_length, List.length_append, List.length_singleton]; omega) ?_)
          rw [if_neg hys] at heq
          have hys' : sn1 y = false := by simpa using hys
          rw [Int.toNat_natCast, set_rb, ← up_snoc]
          refine order_l0 (by rw [List.length_append, List.length_singleton]; omega) ?_
          refine ihf y sn1 (updn nx1 x (j + 1)) o1 (st ++ [x]) hy hys' hcc hzz2 (by rw [List.length_append, List.length_singleton]; omega) (fun nx' hn1 hn2 => ?_)
          have hvis := (visit_vis h f y (sn1, o1) hy hys' hcc).1
          obtain ⟨l, e1, e2, _, _, e5⟩ := hvis.new
          have hmono : ∀ z, sn1 z = true → (visit S f y (sn1, o1)).1 z = true := fun z hz => hvis.mono hz
          unfold After
          refine Ev.ifp (by rw [up_length, List.length_append, List.length_singleton]; omega) ?_
          refine order_l0 (by omega) ?_
          have e5' : l.length + cnt S.length (visit S f y (sn1, o1)).1 = cnt S.length sn1 := e5
          have e1' : (visit S f y (sn1, o1)).2 = o1 ++ l := e1
          refine ihm (j + 1) _ nx' _ (by omega) (by omega) (by rw [hn2 x hsx]; simp [updn]) (hmono x hsx) hn1 (Nat.le_trans (cnt_le hmono) hcc) ?_ (fun z hz => ⟨hmono z (hkeep z hz).1, by rw [hn2 z (hkeep z hz).1]; exact (hkeep2 z hz).2⟩) heq
          rw [e1', List.length_append]; omega
    exact inner _ 0 (upd sn x) nx o rfl (by omega) (hz0 x hs) (upd_self _ _) (fun z hz => hz0 z (by
      cases hq : sn z with
      | false => rfl
      | true => rw [upd_true.mpr (.inr hq)] at hz; cases hz)) (by omega) (by omega) (fun z hz => ⟨upd_true.mpr (.inr hz), rfl⟩) rfl

theorem order_ok {S : List (List Nat)} (h : Gr S) {r : Nat} (hr : r < S.length) : Ev (fun k => graph_Order.f k (up2 S) (up2 (pr S)) (r : Int)) (up (dfs S r)) := by
  have hle := h.le
  unfold graph_Order.f
  refine Ev.bind (may_ok h _) ?_
  refine Ev.ifp (by simp) (Ev.ifn (by omega) ?_)
  refine Ev.succ ?_; simp only [graph_Order.j0]
  refine Ev.ifn (by rw [up2_length]; simp; omega) (Ev.ifp (by omega) (Ev.ifp (by omega) ?_))
  have e1 : (List.replicate 64 false).set ((r : Int)).toNat true = rb (upd none' r) := by
    rw [Int.toNat_natCast, ← set_rb]; rfl
  have e2 : List.replicate 64 (0 : Int) = ri (fun _ => 0) := rfl
  rw [e1, e2]
  have hl := dfs_len h hr
  have := sim h (up2 (pr S)) (up (dfs S r)) S.length r none' (fun _ => 0) [] [] hr rfl (Nat.le_of_eq (cnt_none _)) (fun _ _ => rfl) (by rw [cnt_none]; simp; exact hle) (fun nx' _ _ => by
    unfold After
    refine Ev.ifn (by simp) ?_
    refine Ev.bind (reverse_ok _ ?_) (Ev.pure.of_eq ?_)
    · rw [up_length]
      have e : (dfs S r).length = (visit S S.length r (none', [])).2.length := by rw [dfs, List.length_reverse]
      simp only [big]; omega
    · rw [dfs, up, up, List.map_reverse])
  exact order_l0 (st := []) (by simp) this
theorem order_out {S : List (List Nat)} (h : Gr S) (p : List (List Int)) (r : Int) (hr : r < 0 ∨ (S.length : Int) ≤ r) : Ev (fun k => graph_Order.f k (up2 S) p r) [] := by
  unfold graph_Order.f
  refine Ev.bind (may_ok h _) ?_
  have hj : Ev (fun k => graph_Order.j0 k r true (up2 S) p) ([] : List Int) := by
    refine Ev.succ ?_; simp only [graph_Order.j0]; exact Ev.ifp trivial Ev.pure
  by_cases hp : up2 (pr S) = p
  · refine Ev.ifp (by simp [hp]) ?_
    by_cases h0 : r < 0
    · exact Ev.ifp h0 hj
    · refine Ev.ifn h0 ?_
      rw [decide_eq_true (by rw [up2_length]; omega)]; exact hj
  · exact Ev.ifn (by simp [hp]) hj
theorem order_no {s p : List (List Int)} (r : Int) (hm : Ev (fun k => graph_May.f k s p) false) : Ev (fun k => graph_Order.f k s p r) [] := by
  unfold graph_Order.f
  refine Ev.bind hm (Ev.ifn (by decide) ?_)
  refine Ev.succ ?_; simp only [graph_Order.j0]; exact Ev.ifp trivial Ev.pure

/-! #### each block but the first one has one ahead of it from which it is come to -/
mutual
theorem visit_par (S : List (List Nat)) : ∀ (f x : Nat) (st : Sn × List Nat), ∃ l, (visit S f x st).2 = st.2 ++ l ∧ ∀ l1 z l2, l = l1 ++ z :: l2 → z = x ∨ ∃ p ∈ l2, z ∈ S.getD p []
  | 0, x, st => ⟨[], by simp [visit], fun l1 z l2 e => by simp at e⟩
  | f + 1, x, st => by
    obtain ⟨l, h1, h2⟩ := steps_par S f (S.getD x []) (upd st.1 x, st.2)
    refine ⟨l ++ [x], by rw [visit_succ]; show (steps S f (S.getD x []) (upd st.1 x, st.2)).2 ++ [x] = _; rw [h1, List.append_assoc], fun l1 z l2 e => ?_⟩
    rcases List.append_eq_append_iff.mp e with ⟨m, hm1, hm2⟩ | ⟨m, hm1, hm2⟩
    · cases m with
      | nil => simp at hm2; exact .inl hm2.1.symm
      | cons b m =>
        have := congrArg List.length hm2
        simp only [List.length_append, List.length_cons, List.length_nil] at this; omega
    · cases m with
      | nil => simp at hm2; exact .inl hm2.1
      | cons b m =>
        injection hm2 with e1 e2
        subst e1
        right
        rcases h2 l1 z m hm1 with e3 | ⟨p, hp, e3⟩
        · exact ⟨x, by rw [e2]; simp, e3⟩
        · exact ⟨p, by rw [e2]; exact List.mem_append_left _ hp, e3⟩
theorem steps_par (S : List (List Nat)) : ∀ (f : Nat) (ys : List Nat) (st : Sn × List Nat), ∃ l, (steps S f ys st).2 = st.2 ++ l ∧ ∀ l1 z l2, l = l1 ++ z :: l2 → z ∈ ys ∨ ∃ p ∈ l2, z ∈ S.getD p []
  | f, [], st => ⟨[], by simp [steps], fun l1 z l2 e => by simp at e⟩
  | f, y :: ys, st => by
    rw [steps_cons]
    by_cases hy : st.1 y = true
    · rw [if_pos hy]
      obtain ⟨l, h1, h2⟩ := steps_par S f ys st
      refine ⟨l, h1, fun l1 z l2 e => ?_⟩
      rcases h2 l1 z l2 e with e | e
      · exact .inl (List.mem_cons_of_mem _ e)
      · exact .inr e
    · rw [if_neg hy]
      obtain ⟨la, a1, a2⟩ := visit_par S f y st
      obtain ⟨lb, b1, b2⟩ := steps_par S f ys (visit S f y st)
      refine ⟨la ++ lb, by rw [b1, a1, List.append_assoc], fun l1 z l2 e => ?_⟩
      rcases List.append_eq_append_iff.mp e with ⟨m, hm1, hm2⟩ | ⟨m, hm1, hm2⟩
      · rcases b2 m z l2 hm2 with e | e
        · exact .inl (List.mem_cons_of_mem _ e)
        · exact .inr e
      · cases m with
        | nil =>
          rcases b2 [] z l2 hm2.symm with e | e
          · exact .inl (List.mem_cons_of_mem _ e)
          · exact .inr e
        | cons b m =>
          injection hm2 with e1 e2
          subst e1
          rcases a2 l1 z m hm1 with e3 | ⟨p, hp, e3⟩
          · exact .inl (e3 ▸ List.mem_cons_self ..)
          · exact .inr ⟨p, by rw [e2]; exact List.mem_append_left _ hp, e3⟩
end
theorem dfs_par {S : List (List Nat)} {r : Nat} {l1 l2 : List Nat} {z : Nat} (e : dfs S r = l1 ++ z :: l2) (hz : z ≠ r) : ∃ p ∈ l1, z ∈ S.getD p [] := by
  obtain ⟨l, h1, h2⟩ := visit_par S S.length r (none', [])
  have e2 : l = l2.reverse ++ z :: l1.reverse := by
    have e3 := congrArg List.reverse e
    rw [dfs, List.reverse_reverse, h1] at e3
    simpa using e3
  rcases h2 _ _ _ e2 with e3 | ⟨p, hp, e3⟩
  · exact absurd e3 hz
  · exact ⟨p, List.mem_reverse.mp hp, e3⟩
theorem nodup_inj : ∀ {l : List Nat}, l.Nodup → ∀ {i j : Nat} (hi : i < l.length) (hj : j < l.length), l[i] = l[j] → i = j := by
  intro l
  induction l with
  | nil => intro _ i j hi; simp at hi
  | cons x l ih =>
    intro hn i j hi hj e
    obtain ⟨h1, h2⟩ := List.nodup_cons.mp hn
    cases i with
    | zero => cases j with
      | zero => rfl
      | succ j => exact absurd (by simp at e; rw [e]; exact List.getElem_mem _) h1
    | succ i => cases j with
      | zero => exact absurd (by simp at e; rw [← e]; exact List.getElem_mem _) h1
      | succ j =>
        have := ih h2 (i := i) (j := j) (by simpa using hi) (by simpa using hj) (by simpa using e)
        omega
/-- Places by the order. -/
def Places (o : List Nat) (at_ : Nat → Nat) : Prop := ∀ j, j < o.length → at_ (o.getD j 0) = j
theorem mem_at {o : List Nat} {x : Nat} (h : x ∈ o) : ∃ i, i < o.length ∧ o.getD i 0 = x := by
  obtain ⟨i, hi, e⟩ := List.getElem_of_mem h
  exact ⟨i, hi, by rw [List.getD_eq_getElem?_getD, List.getElem?_eq_getElem hi]; exact e⟩
theorem dfs_pl {S : List (List Nat)} (h : Gr S) {r : Nat} (hr : r < S.length) {at_ : Nat → Nat} (ha : Places (dfs S r) at_) : ∃ par, Pl S r at_ par := by
  have key : ∀ x, Rch S (-1) r x → x ≠ r → ∃ p, Rch S (-1) r p ∧ x ∈ S.getD p [] ∧ at_ p < at_ x := by
    intro x hx hxr
    obtain ⟨i, hi, e⟩ := mem_at ((dfs_mem h hr x).mpr hx)
    have e2 : dfs S r = (dfs S r).take i ++ x :: (dfs S r).drop (i + 1) := by
      have e1 := drop_getD (dfs S r) i 0 hi
      rw [e] at e1
      rw [← e1, List.take_append_drop]
    obtain ⟨p, hp, hpx⟩ := dfs_par e2 hxr
    have hp2 := List.mem_of_mem_take hp
    refine ⟨p, (dfs_mem h hr p).mp hp2, hpx, ?_⟩
    obtain ⟨j, hj, e3⟩ := List.getElem_of_mem hp
    have hj' : j < i := by simp at hj; omega
    have e4 : (dfs S r).getD j 0 = p := by
      rw [List.getD_eq_getElem?_getD, List.getElem?_eq_getElem (by omega)]
      rw [List.getElem_take] at e3; exact e3
    rw [← e4, ha j (by omega), ← e, ha i hi]; exact hj'
  have := fun x => Classical.propDecidable (Rch S (-1) r x ∧ x ≠ r)
  refine ⟨fun x => if hx : Rch S (-1) r x ∧ x ≠ r then (key x hx.1 hx.2).choose else 0, ?_, ?_⟩
  · intro x y hx hy e
    obtain ⟨i, hi, e1⟩ := mem_at ((dfs_mem h hr x).mpr hx)
    obtain ⟨j, hj, e2⟩ := mem_at ((dfs_mem h hr y).mpr hy)
    rw [← e1, ← e2, ha i hi, ha j hj] at e
    rw [← e1, ← e2, e]
  · intro x hx hxr
    simp only [dif_pos (show Rch S (-1) r x ∧ x ≠ r from ⟨hx, hxr⟩)]
    exact (key x hx hxr).choose_spec

/-! #### lists of entries -/
def tv (T : Tr) (x : Nat) : Int := match T x with | none => -2 | some y => (y : Int)
def tl (n : Nat) (T : Tr) : List Int := (List.range n).map (tv T)
def li (n : Nat) (f : Nat → Nat) : List Int := (List.range n).map (fun x => ((f x : Nat) : Int))
@[simp] theorem tl_length (n : Nat) (T : Tr) : (tl n T).length = n := by simp [tl]
@[simp] theorem li_length (n : Nat) (f : Nat → Nat) : (li n f).length = n := by simp [li]
theorem rd_tl {n : Nat} (T : Tr) {x : Nat} (h : x < n) : rd (tl n T) (x : Int) = tv T x := by
  simp only [rd, Int.toNat_natCast, tl]; exact getD_map_range _ _ _ _ h
theorem rd_li {n : Nat} (f : Nat → Nat) {x : Nat} (h : x < n) : rd (li n f) (x : Int) = ((f x : Nat) : Int) := by
  simp only [rd, Int.toNat_natCast, li]; exact getD_map_range _ _ _ _ h
theorem set_tl (n : Nat) (T : Tr) (x y : Nat) : (tl n T).set x (y : Int) = tl n (put T x y) :=
  set_map_range _ _ _ _ _ (by simp [tv, put]) (fun j hj => by simp [tv, put, hj])
def updn' (f : Nat → Nat) (x v : Nat) : Nat → Nat := fun y => if y = x then v else f y
theorem set_li (n : Nat) (f : Nat → Nat) (x v : Nat) : (li n f).set x (v : Int) = li n (updn' f x v) :=
  set_map_range _ _ _ _ _ (by simp [updn']) (fun j hj => by simp [updn', hj])
theorem tv_some {T : Tr} {x y : Nat} (h : T x = some y) : tv T x = (y : Int) := by simp [tv, h]
theorem tv_none {T : Tr} {x : Nat} (h : T x = none) : tv T x = -2 := by simp [tv, h]

/-! #### where two ways up meet -/
def Lca (T : Tr) (r a b m : Nat) : Prop := An T r m a ∧ An T r m b ∧ ∀ c, An T r c a → An T r c b → An T r c m
section
variable {S : List (List Nat)} {r n : Nat} {at_ par : Nat → Nat} {T : Tr}
theorem lca_left (hI : Inv S r at_ par T) {a a' b m : Nat} (ha : T a = some a') (hr : a ≠ r) (hlt : at_ b < at_ a) (h : Lca T r a' b m) : Lca T r a b m := by
  refine ⟨.up ha hr h.1, h.2.1, fun c h1 h2 => ?_⟩
  cases h1 with
  | refl _ => have := h2.le hI; omega
  | up h3 _ h4 => rw [ha] at h3; cases h3; exact h.2.2 c h4 h2
theorem lca_right (hI : Inv S r at_ par T) {a b b' m : Nat} (hb : T b = some b') (hr : b ≠ r) (hlt : at_ a < at_ b) (h : Lca T r a b' m) : Lca T r a b m := by
  refine ⟨h.1, .up hb hr h.2.1, fun c h1 h2 => ?_⟩
  cases h2 with
  | refl _ => have := h1.le hI; omega
  | up h3 _ h4 => rw [hb] at h3; cases h3; exact h.2.2 c h1 h4
theorem meet_all (hG : Gr S) (hr : r < S.length) (hP : Pl S r at_ par) (h0 : at_ r = 0) (hI : Inv S r at_ par T) : ∀ (N a b a' b' : Nat), at_ a + at_ b ≤ N → T a = some a' → T b = some b' →
    (∃ m : Nat, Ev (fun k => dom_meet.l0 k (tl S.length T) (li S.length at_) (a : Int) (b : Int)) (m : Int) ∧ Lca T r a b m) ∧
    (∃ m : Nat, Ev (fun k => dom_meet.l1 k (tl S.length T) (li S.length at_) (a : Int) (b : Int)) (m : Int) ∧ Lca T r a b m) ∧
    (∃ m : Nat, Ev (fun k => dom_meet.l2 k (tl S.length T) (li S.length at_) (a : Int) (b : Int)) (m : Int) ∧ Lca T r a b m) := by
  intro N
  induction N with
  | zero =>
    intro a b a' b' hN ha hb
    have e : a = b := hP.inj a b (hI.rch _ _ ha) (hI.rch _ _ hb) (by omega)
    subst e
    have hal := (hI.rch _ _ ha).lt hG hr
    have hl : Lca T r a a a := ⟨.refl ha, .refl ha, fun c h _ => h⟩
    have l0 : Ev (fun k => dom_meet.l0 k (tl S.length T) (li S.length at_) (a : Int) (a : Int)) (a : Int) := by
      refine Ev.succ ?_; simp only [dom_meet.l0]; exact Ev.ifp trivial Ev.pure
    have l2 : Ev (fun k => dom_meet.l2 k (tl S.length T) (li S.length at_) (a : Int) (a : Int)) (a : Int) := by
      refine Ev.succ ?_; simp only [dom_meet.l2]
      exact Ev.ifp (by omega) (Ev.ifp (by rw [li_length]; omega) (Ev.ifp (by omega) (Ev.ifp (by rw [li_length]; omega) (Ev.ifn (by omega) l0))))
    have l1 : Ev (fun k => dom_meet.l1 k (tl S.length T) (li S.length at_) (a : Int) (a : Int)) (a : Int) := by
      refine Ev.succ ?_; simp only [dom_meet.l1]
      exact Ev.ifp (by omega) (Ev.ifp (by rw [li_length]; omega) (Ev.ifp (by omega) (Ev.ifp (by rw [li_length]; omega) (Ev.ifn (by omega) l2))))
    exact ⟨⟨a, l0, hl⟩, ⟨a, l1, hl⟩, ⟨a, l2, hl⟩⟩
  | succ N ih =>
    intro a b a' b' hN ha hb
    have hal := (hI.rch _ _ ha).lt hG hr
    have hbl := (hI.rch _ _ hb).lt hG hr
    have pass1 : ∀ {v : Int}, at_ a ≤ at_ b → Ev (fun k => dom_meet.l2 k (tl S.length T) (li S.length at_) (a : Int) (b : Int)) v → Ev (fun k => dom_meet.l1 k (tl S.length T) (li S.length at_) (a : Int) (b : Int)) v := by
      intro v hle h
      refine Ev.succ ?_; simp only [dom_meet.l1]
      exact Ev.ifp (by omega) (Ev.ifp (by rw [li_length]; omega) (Ev.ifp (by omega) (Ev.ifp (by rw [li_length]; omega) (Ev.ifn (by rw [rd_li _ hal, rd_li _ hbl]; omega) h))))
    have pass2 : ∀ {v : Int}, at_ b ≤ at_ a → Ev (fun k => dom_meet.l0 k (tl S.length T) (li S.length at_) (a : Int) (b : Int)) v → Ev (fun k => dom_meet.l2 k (tl S.length T) (li S.length at_) (a : Int) (b : Int)) v := by
      intro v hle h
      refine Ev.succ ?_; simp only [dom_meet.l2]
      exact Ev.ifp (by omega) (Ev.ifp (by rw [li_length]; omega) (Ev.ifp (by omega) (Ev.ifp (by rw [li_length]; omega) (Ev.ifn (by rw [rd_li _ hal, rd_li _ hbl]; omega) h))))
    have pass0 : ∀ {v : Int}, a ≠ b → Ev (fun k => dom_meet.l1 k (tl S.length T) (li S.length at_) (a : Int) (b : Int)) v → Ev (fun k => dom_meet.l0 k (tl S.length T) (li S.length at_) (a : Int) (b : Int)) v := by
      intro v hne h
      refine Ev.succ ?_; simp only [dom_meet.l0]
      exact Ev.ifn (by omega) h
    rcases Nat.lt_trichotomy (at_ a) (at_ b) with hlt | heq | hgt
    · have hbr : b ≠ r := by rintro rfl; omega
      obtain ⟨h1, z, h2⟩ := hI.lt b b' hb hbr
      have hb'l := (hI.rch _ _ h2).lt hG hr
      obtain ⟨_, _, m, h3, h4⟩ := ih a b' a' z (by omega) ha h2
      have h5 := lca_right hI hb hbr hlt h4
      have l2 : Ev (fun k => dom_meet.l2 k (tl S.length T) (li S.length at_) (a : Int) (b : Int)) (m : Int) := by
        refine Ev.succ ?_; simp only [dom_meet.l2]
        refine Ev.ifp (by omega) (Ev.ifp (by rw [li_length]; omega) (Ev.ifp (by omega) (Ev.ifp (by rw [li_length]; omega) (Ev.ifp (by rw [rd_li _ hal, rd_li _ hbl]; omega) (Ev.ifp (by rw [tl_length]; omega) ?_)))))
        rw [rd_tl _ hbl, tv_some hb]; exact h3
      have l1 := pass1 (by omega) l2
      exact ⟨⟨m, pass0 (by rintro rfl; omega) l1, h5⟩, ⟨m, l1, h5⟩, ⟨m, l2, h5⟩⟩
    · have e : a = b := hP.inj a b (hI.rch _ _ ha) (hI.rch _ _ hb) heq
      subst e
      have hl : Lca T r a a a := ⟨.refl ha, .refl ha, fun c h _ => h⟩
      have l0 : Ev (fun k => dom_meet.l0 k (tl S.length T) (li S.length at_) (a : Int) (a : Int)) (a : Int) := by
        refine Ev.succ ?_; simp only [dom_meet.l0]; exact Ev.ifp trivial Ev.pure
      have l2 := pass2 (by omega) l0
      exact ⟨⟨a, l0, hl⟩, ⟨a, pass1 (by omega) l2, hl⟩, ⟨a, l2, hl⟩⟩
    · have har : a ≠ r := by rintro rfl; omega
      obtain ⟨h1, z, h2⟩ := hI.lt a a' ha har
      obtain ⟨_, ⟨m, h3, h4⟩, _⟩ := ih a' b z b' (by omega) h2 hb
      have h5 := lca_left hI ha har hgt h4
      have l1 : Ev (fun k => dom_meet.l1 k (tl S.length T) (li S.length at_) (a : Int) (b : Int)) (m : Int) := by
        refine Ev.succ ?_; simp only [dom_meet.l1]
        refine Ev.ifp (by omega) (Ev.ifp (by rw [li_length]; omega) (Ev.ifp (by omega) (Ev.ifp (by rw [li_length]; omega) (Ev.ifp (by rw [rd_li _ hal, rd_li _ hbl]; omega) (Ev.ifp (by rw [tl_length]; omega) ?_)))))
        rw [rd_tl _ hal, tv_some ha]; exact h3
      have l0 := pass0 (by rintro rfl; omega) l1
      exact ⟨⟨m, l0, h5⟩, ⟨m, l1, h5⟩, ⟨m, pass2 (by omega) l0, h5⟩⟩
theorem meet3 (hG : Gr S) (hr : r < S.length) (hP : Pl S r at_ par) (h0 : at_ r = 0) (hI : Inv S r at_ par T) {a b a' b' : Nat} (ha : T a = some a') (hb : T b = some b') :
    ∃ m : Nat, Ev (fun k => dom_meet.f k (tl S.length T) (li S.length at_) (a : Int) (b : Int)) (m : Int) ∧ Lca T r a b m := by
  unfold dom_meet.f
  exact (meet_all hG hr hP h0 hI _ a b a' b' (Nat.le_refl _) ha hb).1

/-! #### the best one of those from which one comes -/
/-- What is best of some blocks from which one comes: nothing, or the nearest one over all that there is of them. -/
def BestOf (T : Tr) (r : Nat) (ps : List Nat) (best : Int) : Prop :=
  ((∀ p ∈ ps, T p = none) ∧ best = -2) ∨ ∃ b : Nat, best = (b : Int) ∧ (∃ z, T b = some z) ∧ (∀ p ∈ ps, ∀ z, T p = some z → An T r b p) ∧ ∀ c, (∀ p ∈ ps, ∀ z, T p = some z → An T r c p) → An T r c b
theorem bestOf_nil : BestOf T r [] (-2) := .inl ⟨by simp, rfl⟩
theorem tree_l3 (hG : Gr S) (hr : r < S.length) (hP : Pl S r at_ par) (h0 : at_ r = 0) (hI : Inv S r at_ par T) {x : Nat} (hx : x < S.length) (o y : List Int) (i : Int) (v : List Int)
    (d : Nat) : ∀ (j : Nat) (best : Int), ((pr S).getD x []).length - j = d → j ≤ ((pr S).getD x []).length → BestOf T r (((pr S).getD x []).take j) best →
    (∀ best', BestOf T r ((pr S).getD x []) best' → Ev (fun k => if tv T x = best' then dom_Tree.l2 k (r : Int) o (tl S.length T) (li S.length at_) y (y.length : Int) (wrap64 (i + 1)) (up2 S) (up2 (pr S)) else dom_Tree.l1 k (r : Int) o ((tl S.length T).set x best') (li S.length at_) (up2 S) (up2 (pr S))) v) →
    Ev (fun k => dom_Tree.l3 k (r : Int) o (tl S.length T) (li S.length at_) (x : Int) best y (y.length : Int) i (up ((pr S).getD x [])) ((up ((pr S).getD x [])).length : Int) (j : Int) (up2 S) (up2 (pr S))) v := by
  have hlen : ((pr S).getD x []).length ≤ 64 := gr_len (gr_pr hG) (by rw [pr_length]; exact hx)
  induction d with
  | zero =>
    intro j best hd hj hB hK
    refine Ev.succ ?_; simp only [dom_Tree.l3]
    refine Ev.ifn (by rw [up_length]; omega) (Ev.ifp (by omega) (Ev.ifp (by rw [tl_length]; omega) ?_))
    rw [rd_tl _ hx, Int.toNat_natCast]
    rw [List.take_of_length_le (by omega)] at hB
    exact hK best hB
  | succ d ih =>
    intro j best hd hj hB hK
    have hj1 : j < ((pr S).getD x []).length := by omega
    have hmem : ((pr S).getD x []).getD j 0 ∈ (pr S).getD x [] := getD_mem hj1
    have hp := (mem_pr hx).mp hmem
    have htk := take_getD ((pr S).getD x []) j 0 hj1
    refine Ev.succ ?_; simp only [dom_Tree.l3]
    rw [rd_up]
    generalize ((pr S).getD x []).getD j 0 = p at hmem hp htk
    have hstep : ∀ best', BestOf T r (((pr S).getD x []).take (j + 1)) best' → Ev (fun k => dom_Tree.l3 k (r : Int) o (tl S.length T) (li S.length at_) (x : Int) best' y (y.length : Int) i (up ((pr S).getD x [])) ((up ((pr S).getD x [])).length : Int) (wrap64 ((j : Int) + 1)) (up2 S) (up2 (pr S))) v := by
      intro best' hB'
      rw [wrap_nat (by omega)]
      exact ih (j + 1) best' (by omega) (by omega) hB' hK
    refine Ev.ifp (by rw [up_length]; omega) (Ev.ifp (by omega) (Ev.ifp (by rw [up_length]; omega) (Ev.ifp (by omega) (Ev.ifp (by rw [tl_length]; omega) ?_))))
    rw [rd_tl _ hp.1]
    cases hT : T p with
    | none =>
      refine Ev.ifp (tv_none hT) (hstep best ?_)
      rw [htk]
      rcases hB with ⟨h1, h2⟩ | ⟨b, h1, h2, h3, h4⟩
      · refine .inl ⟨fun q hq => ?_, h2⟩
        rcases List.mem_append.mp hq with e | e
        · exact h1 q e
        · rw [List.mem_singleton.mp e]; exact hT
      · refine .inr ⟨b, h1, h2, fun q hq z hz => ?_, fun c hc => h4 c (fun q hq => hc q (List.mem_append_left _ hq))⟩
        rcases List.mem_append.mp hq with e | e
        · exact h3 q e z hz
        · rw [List.mem_singleton.mp e, hT] at hz; cases hz
    | some p' =>
      refine Ev.ifn (by rw [tv_some hT]; omega) ?_
      rcases hB with ⟨h1, h2⟩ | ⟨b, h1, ⟨bz, h2⟩, h3, h4⟩
      · refine Ev.ifp h2 (hstep (p : Int) ?_)
        rw [htk]
        refine .inr ⟨p, rfl, ⟨p', hT⟩, fun q hq z hz => ?_, fun c hc => hc p (by simp) p' hT⟩
        rcases List.mem_append.mp hq with e | e
        · rw [h1 q e] at hz; cases hz
        · rw [List.mem_singleton.mp e]; exact .refl hT
      · refine Ev.ifn (by omega) ?_
        obtain ⟨m, g1, g2, g3, g4⟩ := meet3 hG hr hP h0 hI h2 hT
        rw [h1]
        refine Ev.bind g1 (hstep (m : Int) ?_)
        rw [htk]
        refine .inr ⟨m, rfl, g2.top, fun q hq z hz => ?_, fun c hc => g4 c (h4 c (fun q hq => hc q (List.mem_append_left _ hq))) (hc p (by simp) p' hT)⟩
        rcases List.mem_append.mp hq with e | e
        · exact g2.trans (h3 q e z hz)
        · rw [List.mem_singleton.mp e]; exact g3

/-! #### the whole -/
def wt (n : Nat) (at_ : Nat → Nat) (T : Tr) : Nat := ((List.range n).map (fun x => match T x with | none => n | some y => at_ y)).sum
theorem sum_le {l : List Nat} {f g : Nat → Nat} (h : ∀ x ∈ l, f x ≤ g x) : (l.map f).sum ≤ (l.map g).sum := by
  induction l with
  | nil => simp
  | cons x l ih =>
    have h1 := ih (fun y hy => h y (List.mem_cons_of_mem _ hy))
    have h2 := h x (List.mem_cons_self ..)
    simp only [List.map_cons, List.sum_cons]; omega
theorem sum_lt {l : List Nat} {f g : Nat → Nat} (h : ∀ x ∈ l, f x ≤ g x) {z : Nat} (hz : z ∈ l) (hl : f z < g z) : (l.map f).sum < (l.map g).sum := by
  induction l with
  | nil => cases hz
  | cons x l ih =>
    have h1 := sum_le (fun y hy => h y (List.mem_cons_of_mem x hy))
    have h2 := h x (List.mem_cons_self ..)
    simp only [List.map_cons, List.sum_cons]
    rcases List.mem_cons.mp hz with e | e
    · subst e; omega
    · have := ih (fun y hy => h y (List.mem_cons_of_mem _ hy)) e; omega
open Classical in
/-- A block's entry: the nearest of those that dominate it; -1: the root; -2: it isn't reached. -/
noncomputable def idv (S : List (List Nat)) (r x : Nat) : Int := if x = r then -1 else if h : ∃ z, Idm S r z x then (h.choose : Int) else -2
noncomputable def dtl (S : List (List Nat)) (r : Nat) : List Int := (List.range S.length).map (idv S r)
theorem idv_root : idv S r r = -1 := by simp [idv]
theorem idv_idm (hP : Pl S r at_ par) {x z : Nat} (hx : x ≠ r) (h : Idm S r z x) : idv S r x = (z : Int) := by
  have hex : ∃ z, Idm S r z x := ⟨z, h⟩
  unfold idv
  rw [if_neg hx, dif_pos hex, idm_unique hP hex.choose_spec h]
theorem idv_no {x : Nat} (hr : r < S.length) (hx : ¬ Rch S (-1) r x) : idv S r x = -2 := by
  unfold idv
  rw [if_neg (fun e => hx (by subst e; exact .base (by omega))), dif_neg (fun h => by obtain ⟨z, hz⟩ := h; exact hx hz.1.1)]
theorem tree_end (hP : Pl S r at_ par) (hr : r < S.length) (hI : Inv S r at_ par T) (hF : ∀ y, Rch S (-1) r y → y ≠ r → Fx S r T y) : (tl S.length T).set r (-1) = dtl S r := by
  refine set_map_range _ _ _ _ _ idv_root (fun j hj => ?_)
  by_cases hR : Rch S (-1) r j
  · obtain ⟨z, hz, _⟩ := hF j hR hj
    rw [tv_some hz]
    exact idv_idm hP hj (fix_idm hI hF j z hz hj)
  · rw [idv_no hr hR]
    cases hT : T j with
    | none => exact (tv_none hT).symm
    | some y => exact absurd (hI.rch _ _ hT) hR
theorem tree_go (hG : Gr S) (hr : r < S.length) (ha : Places (dfs S r) at_) (hP : Pl S r at_ par) (hI : Inv S r at_ par T)
    (hgo : ∀ T', Inv S r at_ par T' → wt S.length at_ T' < wt S.length at_ T → Ev (fun k => dom_Tree.l1 k (r : Int) (up (dfs S r)) (tl S.length T') (li S.length at_) (up2 S) (up2 (pr S))) (dtl S r)) :
    Ev (fun k => dom_Tree.l1 k (r : Int) (up (dfs S r)) (tl S.length T) (li S.length at_) (up2 S) (up2 (pr S))) (dtl S r) := by
  obtain ⟨tail, htail⟩ := dfs_head hG r
  have hle := hG.le
  have hdl := dfs_len hG hr
  have h0 : at_ r = 0 := by have := ha 0 (by rw [htail]; simp); rw [htail] at this; simpa using this
  have htl : tail.length + 1 = (dfs S r).length := by rw [htail]; simp
  have hget : ∀ i, (dfs S r).getD (i + 1) 0 = tail.getD i 0 := by intro i; rw [htail]; simp
  have hatn : ∀ y, Rch S (-1) r y → at_ y < S.length := by
    intro y hy
    obtain ⟨i, hi, e⟩ := mem_at ((dfs_mem hG hr y).mpr hy)
    rw [← e, ha i hi]; omega
  have l2 : ∀ (d i : Nat), tail.length - i = d → i ≤ tail.length → (∀ y, Rch S (-1) r y → at_ y ≤ i → y ≠ r → Fx S r T y) →
      Ev (fun k => dom_Tree.l2 k (r : Int) (up (dfs S r)) (tl S.length T) (li S.length at_) (up tail) ((up tail).length : Int) (i : Int) (up2 S) (up2 (pr S))) (dtl S r) := by
    intro d
    induction d with
    | zero =>
      intro i hd hi hF
      refine Ev.succ ?_; simp only [dom_Tree.l2]
      refine Ev.ifn (by rw [up_length]; omega) (Ev.ifp (by omega) (Ev.ifp (by rw [tl_length]; omega) (Ev.pure.of_eq ?_)))
      rw [Int.toNat_natCast]
      refine tree_end hP hr hI (fun y hy hyr => hF y hy ?_ hyr)
      obtain ⟨j, hj, e⟩ := mem_at ((dfs_mem hG hr y).mpr hy)
      rw [← e, ha j hj]; omega
    | succ d ih =>
      intro i hd hi hF
      have hi1 : i + 1 < (dfs S r).length := by omega
      have hmem : (dfs S r).getD (i + 1) 0 ∈ dfs S r := getD_mem hi1
      have hat := ha (i + 1) hi1
      rw [hget] at hmem hat
      have hxr : tail.getD i 0 ≠ r := by intro e; rw [e, h0] at hat; omega
      refine Ev.succ ?_; simp only [dom_Tree.l2]
      rw [rd_up]
      generalize tail.getD i 0 = x at hmem hat hxr
      have hxl := dfs_lt hG hr x hmem
      have hxR := (dfs_mem hG hr x).mp hmem
      have hF' : ∀ y, Rch S (-1) r y → at_ y < at_ x → y ≠ r → Fx S r T y := fun y hy hlt hyr => hF y hy (by omega) hyr
      refine Ev.ifp (by rw [up_length]; omega) (Ev.ifp (by omega) (Ev.ifp (by rw [up_length]; omega) (Ev.ifp (by omega) (Ev.ifp (by rw [up2_length, pr_length]; omega) ?_))))
      rw [rdL_up]
      refine tree_l3 hG hr hP h0 hI hxl (up (dfs S r)) (up tail) (i : Int) (dtl S r) _ 0 (-2) rfl (by omega) (by rw [List.take_zero]; exact bestOf_nil) (fun best hB => ?_)
      obtain ⟨pR, pS, pA⟩ := hP.par x hxR hxr
      have hpl := pR.lt hG hr
      obtain ⟨pz, hpz⟩ : ∃ z, T (par x) = some z := by
        by_cases e : par x = r
        · rw [e]; exact ⟨_, hI.root⟩
        · obtain ⟨z, hz, _⟩ := hF' _ pR pA e; exact ⟨z, hz⟩
      have hpm : par x ∈ (pr S).getD x [] := (mem_pr hxl).mpr ⟨hpl, pS⟩
      rcases hB with ⟨h1, _⟩ | ⟨b, h1, ⟨bz, h2⟩, h3, h4⟩
      · have := h1 _ hpm; rw [hpz] at this; cases this
      · have hall : ∀ p z, x ∈ S.getD p [] → T p = some z → p ∈ (pr S).getD x [] := fun p z hp hz => (mem_pr hxl).mpr ⟨(hI.rch _ _ hz).lt hG hr, hp⟩
        have hBest : Best S r T x b := ⟨fun p y hp hy => h3 p (hall p y hp hy) y hy, fun c hc => h4 c (fun p hp z hz => hc p z ((mem_pr hxl).mp hp).2 hz)⟩
        subst h1
        by_cases e : tv T x = (b : Int)
        · refine Ev.ifp e ?_
          rw [wrap_nat (by omega)]
          refine ih (i + 1) (by omega) (by omega) (fun y hy hyi hyr => ?_)
          by_cases e2 : at_ y ≤ i
          · exact hF y hy e2 hyr
          · have e3 : y = x := hP.inj y x hy hxR (by omega)
            subst e3
            refine ⟨b, ?_, hBest.1⟩
            cases hT : T y with
            | none => rw [tv_none hT] at e; omega
            | some q => rw [tv_some hT] at e; rw [Int.ofNat_inj.mp e]
        · refine Ev.ifn e ?_
          rw [set_tl]
          obtain ⟨g1, g2⟩ := step_inv hP hI hxR hxr hF' hBest
          refine hgo _ g1 ?_
          have hbn := hatn b (hI.rch _ _ h2)
          have hlt : at_ b < (match T x with | none => S.length | some y => at_ y) := by
            cases hT : T x with
            | none => exact hbn
            | some q => exact g2 q hT (fun e4 => e (by rw [tv_some hT, e4]))
          refine sum_lt (fun y _ => ?_) (List.mem_range.mpr hxl) (by simp only [put_self]; exact hlt)
          by_cases e5 : y = x
          · subst e5; simp only [put_self]; exact Nat.le_of_lt hlt
          · rw [put_ne e5]; exact Nat.le_refl _
  refine Ev.succ ?_; simp only [dom_Tree.l1]
  refine Ev.ifp (by rw [up_length]; omega) ?_
  simp only [Option.bind_some]
  have e : (up (dfs S r)).drop 1 = up tail := by rw [htail]; simp [up]
  rw [e]
  refine l2 _ 0 rfl (by omega) (fun y hy hy0 hyr => ?_)
  exact absurd (hP.inj y r hy (.base (by omega)) (by omega)) hyr
theorem tree_l1 (hG : Gr S) (hr : r < S.length) (ha : Places (dfs S r) at_) (hP : Pl S r at_ par) : ∀ (M : Nat) (T : Tr), Inv S r at_ par T → wt S.length at_ T < M →
    Ev (fun k => dom_Tree.l1 k (r : Int) (up (dfs S r)) (tl S.length T) (li S.length at_) (up2 S) (up2 (pr S))) (dtl S r) := by
  intro M
  induction M with
  | zero => intro T _ h; omega
  | succ M ih => intro T hI hM; exact tree_go hG hr ha hP hI (fun T' hI' h => ih T' hI' (by omega))
theorem tree_l0 (hG : Gr S) (hr : r < S.length) (d : Nat) : ∀ (i : Nat) (f : Nat → Nat), (dfs S r).length - i = d → i ≤ (dfs S r).length → (∀ j, j < i → f ((dfs S r).getD j 0) = j) →
    Ev (fun k => dom_Tree.l0 k (r : Int) (up (dfs S r)) (List.replicate S.length (-2)) (li S.length f) (up (dfs S r)) ((up (dfs S r)).length : Int) (i : Int) (up2 S) (up2 (pr S))) (dtl S r) := by
  have hle := hG.le
  have hdl := dfs_len hG hr
  induction d with
  | zero =>
    intro i f hd hi hf
    have ha : Places (dfs S r) f := fun j hj => hf j (by omega)
    obtain ⟨par, hP⟩ := dfs_pl hG hr ha
    refine Ev.succ ?_; simp only [dom_Tree.l0]
    refine Ev.ifn (by rw [up_length]; omega) (Ev.ifp (by omega) (Ev.ifp (by simp; omega) ?_))
    have e : (List.replicate S.length (-2 : Int)).set ((r : Int)).toNat (r : Int) = tl S.length (put (fun _ => none) r r) := by
      have e1 : List.replicate S.length (-2 : Int) = tl S.length (fun _ => none) := by
        apply List.ext_getElem
        · simp
        · intro j h1 h2; simp [tl, tv]
      rw [e1, Int.toNat_natCast, set_tl]
    rw [e]
    have hI : Inv S r f par (put (fun _ => none) r r) := by
      have hn : ∀ {x y : Nat}, put (fun _ => none) r r x = some y → x = r := by
        intro x y h
        by_cases e : x = r
        · exact e
        · rw [put_ne e] at h; cases h
      exact ⟨put_self _ _ _, fun x y h => by rw [hn h]; exact .base (by omega), fun x y h hx => absurd (hn h) hx, fun x y h hx => absurd (hn h) hx, fun x y h hx => absurd (hn h) hx, fun x y h hx => absurd (hn h) hx⟩
    exact tree_l1 hG hr ha hP _ _ hI (Nat.lt_succ_self _)
  | succ d ih =>
    intro i f hd hi hf
    have hi1 : i < (dfs S r).length := by omega
    have hmem : (dfs S r).getD i 0 ∈ dfs S r := getD_mem hi1
    have hxl := dfs_lt hG hr _ hmem
    refine Ev.succ ?_; simp only [dom_Tree.l0]
    rw [rd_up]
    refine Ev.ifp (by rw [up_length]; omega) (Ev.ifp (by omega) (Ev.ifp (by rw [up_length]; omega) (Ev.ifp (by omega) (Ev.ifp (by rw [li_length]; omega) ?_))))
    rw [Int.toNat_natCast, set_li, wrap_nat (by omega)]
    refine ih (i + 1) _ (by omega) (by omega) (fun j hj => ?_)
    unfold updn'
    by_cases e : (dfs S r).getD j 0 = (dfs S r).getD i 0
    · rw [if_pos e]
      have hj1 : j < (dfs S r).length := by omega
      have hnd := dfs_nodup hG hr
      rw [List.getD_eq_getElem?_getD, List.getD_eq_getElem?_getD, List.getElem?_eq_getElem hj1, List.getElem?_eq_getElem hi1] at e
      exact (nodup_inj hnd hj1 hi1 e).symm
    · rw [if_neg e]
      exact hf j (by have : j ≠ i := fun e2 => e (by rw [e2]); omega)
theorem tree_ok (hG : Gr S) (hr : r < S.length) : Ev (fun k => dom_Tree.f k (up2 S) (up2 (pr S)) (r : Int)) (dtl S r) := by
  have hle := hG.le
  obtain ⟨tail, htail⟩ := dfs_head hG r
  unfold dom_Tree.f
  refine Ev.bind (order_ok hG hr) (Ev.ifn (by rw [up_length, htail]; simp; omega) ?_)
  have e1 : slices_Repeat_int_int.f ([(-2)] : List Int) ((up2 S).length : Int) = some (List.replicate S.length (-2)) := by
    unfold slices_Repeat_int_int.f
    rw [if_pos ⟨rfl, by rw [up2_length]; have := hG.pos; omega, by rw [up2_length]; omega⟩, up2_length, Int.toNat_natCast]; rfl
  rw [e1]
  simp only [Option.bind_some]
  refine Ev.ifp (by omega) (Ev.ifp (by rw [up2_length]; omega) ?_)
  have e2 : List.replicate ((up2 S).length : Int).toNat (0 : Int) = li S.length (fun _ => 0) := by
    rw [up2_length, Int.toNat_natCast]
    apply List.ext_getElem
    · simp
    · intro j h1 h2; simp [li]
  rw [e2]
  exact tree_l0 hG hr _ 0 _ rfl (by omega) (fun j hj => by omega)
theorem tree_no {s p : List (List Int)} {r : Int} (ho : Ev (fun k => graph_Order.f k s p r) []) : Ev (fun k => dom_Tree.f k s p r) [] := by
  unfold dom_Tree.f
  exact Ev.bind ho (Ev.ifp rfl Ev.pure)
end

@[simp] theorem dtl_length (S : List (List Nat)) (r : Nat) : (dtl S r).length = S.length := by simp [dtl]
theorem rd_dtl {S : List (List Nat)} {r x : Nat} (h : x < S.length) : rd (dtl S r) (x : Int) = idv S r x := by
  simp only [rd, Int.toNat_natCast, dtl]; exact getD_map_range _ _ _ _ h
/-- A graph, its root, and places by its order. -/
structure Gd (S : List (List Nat)) (r : Nat) (at_ par : Nat → Nat) : Prop where
  gr : Gr S
  lt : r < S.length
  pl : Pl S r at_ par
  at0 : at_ r = 0
  atn : ∀ x, Rch S (-1) r x → at_ x < S.length
  idm : ∀ x, Rch S (-1) r x → x ≠ r → ∃ z, Idm S r z x
theorem places_ex {S : List (List Nat)} (h : Gr S) {r : Nat} (hr : r < S.length) : ∃ at_, Places (dfs S r) at_ := by
  refine ⟨fun x => (dfs S r).findIdx (fun y => decide (y = x)), fun j hj => ?_⟩
  have hex : ∃ y ∈ dfs S r, decide (y = (dfs S r).getD j 0) = true := ⟨(dfs S r).getD j 0, getD_mem hj, by simp⟩
  have h1 := List.findIdx_lt_length_of_exists hex
  have h2 := List.findIdx_getElem (w := h1)
  have h3 : (dfs S r)[j] = (dfs S r).getD j 0 := by rw [List.getD_eq_getElem?_getD, List.getElem?_eq_getElem hj]; rfl
  refine nodup_inj (dfs_nodup h hr) h1 hj ?_
  rw [h3]; exact of_decide_eq_true h2
theorem dm_last {S : List (List Nat)} {r d e : Nat} (hde : d ≠ e) {x : Nat} (h : Rch S (-1) r x) : Rch S (d : Int) r x ∨ Rch S (e : Int) d x ∨ Rch S (d : Int) e x := by
  induction h with
  | base _ =>
    by_cases e1 : r = d
    · subst e1; exact .inr (.inl (.base (by omega)))
    · by_cases e2 : r = e
      · subst e2; exact .inr (.inr (.base (by omega)))
      · exact .inl (.base (by omega))
  | @step a y _ hy _ ih =>
    by_cases e1 : y = d
    · subst e1; exact .inr (.inl (.base (by omega)))
    · by_cases e2 : y = e
      · subst e2; exact .inr (.inr (.base (by omega)))
      · rcases ih with h | h | h
        · exact .inl (.step h hy (by omega))
        · exact .inr (.inl (.step h hy (by omega)))
        · exact .inr (.inr (.step h hy (by omega)))
/-- Of two that dominate one, one dominates the other one. -/
theorem dm_line {S : List (List Nat)} {r d e x : Nat} (hd : Dm S r d x) (he : Dm S r e x) : Dm S r d e ∨ Dm S r e d := by
  by_cases hde : d = e
  · subst hde; exact .inl (dm_refl (dm_rch hd))
  · rcases dm_last hde hd.1 with h | h | h
    · exact absurd h hd.2
    · exact .inr ⟨dm_rch hd, fun h' => he.2 (h'.trans h)⟩
    · exact .inl ⟨dm_rch he, fun h' => hd.2 (h'.trans h)⟩
/-- The nearest dominator is there. -/
theorem idm_ex {S : List (List Nat)} {r : Nat} {at_ par : Nat → Nat} (hP : Pl S r at_ par) {x : Nat} (hx : Rch S (-1) r x) (hxr : x ≠ r) : ∃ z, Idm S r z x := by
  have key : ∀ (n z : Nat), Dm S r z x → z ≠ x → at_ x - at_ z ≤ n → ∃ z', Dm S r z' x ∧ z' ≠ x ∧ ∀ d, Dm S r d x → d ≠ x → at_ d ≤ at_ z' := by
    intro n
    induction n with
    | zero =>
      intro z hz hne hn
      have h1 := dm_le hP _ _ (Nat.le_refl _) hz
      exact absurd (hP.inj z x (dm_rch hz) hx (by omega)) hne
    | succ n ih =>
      intro z hz hne hn
      by_cases hex : ∃ d, Dm S r d x ∧ d ≠ x ∧ at_ z < at_ d
      · obtain ⟨d, h1, h2, h3⟩ := hex
        exact ih d h1 h2 (by have := dm_le hP _ _ (Nat.le_refl _) h1; omega)
      · exact ⟨z, hz, hne, fun d h1 h2 => Nat.le_of_not_lt (fun h3 => hex ⟨d, h1, h2, h3⟩)⟩
  obtain ⟨z, h1, h2, h3⟩ := key _ r (dm_root hx) (fun e => hxr e.symm) (Nat.le_refl _)
  refine ⟨z, h1, h2, fun d hd hdx => ?_⟩
  rcases dm_line hd h1 with h | h
  · exact h
  · have h4 := dm_le hP _ _ (Nat.le_refl _) h
    have h5 := h3 d hd hdx
    rw [hP.inj d z (dm_rch hd) (dm_rch h1) (by omega)]; exact dm_refl (dm_rch h1)
theorem gd_of {S : List (List Nat)} {r : Nat} (hG : Gr S) (hr : r < S.length) {at_ : Nat → Nat} (ha : Places (dfs S r) at_) : ∃ par, Gd S r at_ par := by
  obtain ⟨par, hP⟩ := dfs_pl hG hr ha
  refine ⟨par, hG, hr, hP, ?_, ?_, ?_⟩
  · obtain ⟨tail, htail⟩ := dfs_head hG r; have := ha 0 (by rw [htail]; simp); rw [htail] at this; simpa using this
  · intro y hy
    obtain ⟨i, hi, e⟩ := mem_at ((dfs_mem hG hr y).mpr hy)
    rw [← e, ha i hi]; have := dfs_len hG hr; omega
  · exact fun x hx hxr => idm_ex hP hx hxr
theorem gd_ex {S : List (List Nat)} {r : Nat} (hG : Gr S) (hr : r < S.length) : ∃ at_ par, Gd S r at_ par := by
  obtain ⟨at_, ha⟩ := places_ex hG hr
  exact ⟨at_, gd_of hG hr ha⟩


theorem awake_ok : locksteplaw07_awake.f 100 = some true := by decide +kernel
theorem awake_ev : Ev (fun k => locksteplaw07_awake.f k) true := Ev.of_at (fun k => locksteplaw07_awake.mono k) awake_ok

theorem small_l0 (d : Nat) : ∀ (i : Nat) (s : List (List Int)), s.length ≤ big → i ≤ s.length → s.length - i = d → i ≤ 101 →
    ∃ b, Ev (fun k => lockstepref06_Small.l0 k s (i : Int)) b ∧ (b = true → s.length ≤ 101 ∧ ∀ l ∈ s.drop i, l.length ≤ 100) := by
  induction d with
  | zero =>
    intro i s hb hi hd h1
    refine ⟨true, Ev.succ ?_, fun _ => ⟨by omega, by rw [List.drop_of_length_le (by omega)]; simp⟩⟩
    simp only [lockstepref06_Small.l0]
    exact Ev.ifn (by omega) Ev.pure
  | succ d ih =>
    intro i s hb hi hd h1
    have hbb : big = 9223372036854775807 := rfl
    have hrd : rd_L1 s (i : Int) = s.getD i [] := by simp [rd_L1]
    by_cases hc : ((s.getD i []).length : Int) > 100
    · refine ⟨false, Ev.succ ?_, fun h => by cases h⟩
      simp only [lockstepref06_Small.l0]
      refine Ev.ifp (by omega) (Ev.ifp (by omega) (Ev.ifp (by rw [hrd]; exact hc) Ev.pure))
    · by_cases hc2 : (i : Int) > 100
      · refine ⟨false, Ev.succ ?_, fun h => by cases h⟩
        simp only [lockstepref06_Small.l0]
        refine Ev.ifp (by omega) (Ev.ifp (by omega) (Ev.ifn (by rw [hrd]; exact hc) (Ev.ifp hc2 Ev.pure)))
      · obtain ⟨b, he, hb'⟩ := ih (i + 1) s hb (by omega) (by omega) (by omega)
        refine ⟨b, Ev.succ ?_, fun h => ⟨(hb' h).1, ?_⟩⟩
        · simp only [lockstepref06_Small.l0]
          refine Ev.ifp (by omega) (Ev.ifp (by omega) (Ev.ifn (by rw [hrd]; exact hc) (Ev.ifn hc2 ?_)))
          rw [wrap_nat (by omega)]; exact he
        · rw [drop_getD s i [] (by omega)]
          intro l hl
          rcases List.mem_cons.mp hl with e | e
          · subst e; omega
          · exact (hb' h).2 l e
theorem small_ev (s : List (List Int)) (hb : s.length ≤ big) : ∃ b, Ev (fun k => lockstepref06_Small.f k s) b ∧ (b = true → s.length ≤ 101 ∧ ∀ l ∈ s, l.length ≤ 100) := by
  obtain ⟨b, h1, h2⟩ := small_l0 s.length 0 s hb (by omega) (by omega) (by omega)
  exact ⟨b, by unfold lockstepref06_Small.f; simpa using h1, by simpa using h2⟩

/-! #### Reach -/
def rbn (n : Nat) (s : Sn) : List Bool := (List.range n).map s
@[simp] theorem rbn_length (n : Nat) (s : Sn) : (rbn n s).length = n := by simp [rbn]
theorem rd_rbn (n : Nat) (s : Sn) {y : Nat} (h : y < n) : rdOf false (rbn n s) (y : Int) = s y := by
  simp only [rdOf, Int.toNat_natCast, rbn]; exact getD_map_range _ _ _ _ h
theorem set_rbn (n : Nat) (s : Sn) (y : Nat) : (rbn n s).set y true = rbn n (upd s y) :=
  set_map_range _ _ _ _ _ (by simp [upd]) (fun j hj => by simp [upd, hj])
/-- No way leads out of it. -/
def Closed (S : List (List Nat)) (w : Int) (C : Nat → Prop) : Prop := ∀ a, C a → ∀ y ∈ S.getD a [], (y : Int) ≠ w → C y
def Sub (S : List (List Nat)) (w : Int) (X Y : Sn) : Prop := (∀ z, X z = true → Y z = true) ∧ ∀ C, Closed S w C → (∀ z, X z = true → C z) → ∀ z, Y z = true → C z
theorem Sub.refl (S : List (List Nat)) (w : Int) (X : Sn) : Sub S w X X := ⟨fun _ h => h, fun _ _ h => h⟩
theorem Sub.trans {S : List (List Nat)} {w : Int} {X Y Z : Sn} (h1 : Sub S w X Y) (h2 : Sub S w Y Z) : Sub S w X Z :=
  ⟨fun z h => h2.1 z (h1.1 z h), fun C hC h => h2.2 C hC (h1.2 C hC h)⟩

theorem reach_l2 {S : List (List Nat)} (h : Gr S) (P : List (List Int)) (w : Int) (t i : Nat) (hi : i < S.length) (v : List Bool) (d : Nat) :
    ∀ (j : Nat) (X : Sn), (S.getD i []).length - j = d → j ≤ (S.getD i []).length →
    (∀ Y, Sub S w X Y → (X i = true → ∀ y ∈ (S.getD i []).drop j, (y : Int) ≠ w → Y y = true) → Ev (fun k => lockstepref06_Reach.l1 k w (rbn S.length Y) (t : Int) ((i + 1 : Nat) : Int) (up2 S) P) v) →
    Ev (fun k => lockstepref06_Reach.l2 k w (rbn S.length X) (t : Int) (i : Int) (j : Int) (up2 S) P) v := by
  have hle := h.le
  have hdeg := gr_len h hi
  induction d with
  | zero =>
    intro j X hd hj hK
    have hK' := hK X (Sub.refl _ _ _) (fun _ y hy => by rw [List.drop_of_length_le (by omega)] at hy; cases hy)
    have hj3 : Ev (fun k => lockstepref06_Reach.j3 k w (rbn S.length X) (t : Int) (i : Int) (j : Int) false (up2 S) P) v := by
      refine Ev.succ ?_; simp only [lockstepref06_Reach.j3]
      refine Ev.ifn (by decide) ?_
      rw [wrap_nat (by omega)]; exact hK'
    refine Ev.succ ?_; simp only [lockstepref06_Reach.l2]
    rw [rd_rbn _ _ hi, rdL_up, up_length]
    refine Ev.ifp (by omega) (Ev.ifp (by rw [rbn_length]; omega) ?_)
    by_cases hX : X i = true
    · refine Ev.ifp hX (Ev.ifp (by rw [up2_length]; omega) ?_)
      rw [decide_eq_false (by omega)]; exact hj3
    · exact Ev.ifn hX hj3
  | succ d ih =>
    intro j X hd hj hK
    have hj1 : j < (S.getD i []).length := by omega
    have hy := (h.row i hi).2 _ (getD_mem (d := 0) hj1)
    refine Ev.succ ?_; simp only [lockstepref06_Reach.l2]
    rw [rd_rbn _ _ hi, rdL_up, up_length]
    refine Ev.ifp (by omega) (Ev.ifp (by rw [rbn_length]; omega) ?_)
    by_cases hX : X i = true
    · refine Ev.ifp hX (Ev.ifp (by rw [up2_length]; omega) ?_)
      rw [decide_eq_true (by omega)]
      refine Ev.succ ?_; simp only [lockstepref06_Reach.j3]
      rw [rdL_up, up_length, rd_up]
      have hdr := drop_getD (S.getD i []) j 0 hj1
      have hmem : (S.getD i []).getD j 0 ∈ S.getD i [] := getD_mem hj1
      generalize (S.getD i []).getD j 0 = y at hy hdr hmem
      rw [hdr] at hK
      refine Ev.ifp trivial (Ev.ifp (by omega) (Ev.ifp (by rw [up2_length]; omega) (Ev.ifp (by omega) (Ev.ifp (by omega) ?_))))
      by_cases hw : (y : Int) = w
      · refine Ev.ifp hw ?_
        rw [wrap_nat (by omega)]
        refine ih (j + 1) X (by omega) (by omega) (fun Y hY hYi => hK Y hY (fun hXi z hz hzw => ?_))
        rcases List.mem_cons.mp hz with e | e
        · subst e; exact absurd hw hzw
        · exact hYi hXi z e hzw
      · refine Ev.ifn hw (Ev.ifp (by omega) (Ev.ifp (by rw [rbn_length]; omega) ?_))
        rw [wrap_nat (by omega), Int.toNat_natCast, set_rbn]
        have hs : Sub S w X (upd X y) := ⟨fun z hz => upd_true.mpr (.inr hz), fun C hC hXC z hz => by
          rcases upd_true.mp hz with e | e
          · subst e; exact hC i (hXC i hX) z hmem hw
          · exact hXC z e⟩
        refine ih (j + 1) (upd X y) (by omega) (by omega) (fun Y hY hYi => hK Y (hs.trans hY) (fun hXi z hz hzw => ?_))
        rcases List.mem_cons.mp hz with e | e
        · subst e; exact hY.1 z (upd_self _ _)
        · exact hYi (upd_true.mpr (.inr hXi)) z e hzw
    · refine Ev.ifn hX ?_
      refine Ev.succ ?_; simp only [lockstepref06_Reach.j3]
      refine Ev.ifn (by decide) ?_
      rw [wrap_nat (by omega)]; exact hK X (Sub.refl _ _ _) (fun hXi => absurd hXi hX)
theorem reach_l1 {S : List (List Nat)} (h : Gr S) (P : List (List Int)) (w : Int) (t : Nat) (ht : t < S.length) (v : List Bool) (d : Nat) :
    ∀ (i : Nat) (X : Sn), S.length - i = d → i ≤ S.length →
    (∀ Y, Sub S w X Y → (∀ a, i ≤ a → a < S.length → X a = true → ∀ y ∈ S.getD a [], (y : Int) ≠ w → Y y = true) → Ev (fun k => lockstepref06_Reach.l0 k w (rbn S.length Y) ((t + 1 : Nat) : Int) (up2 S) P) v) →
    Ev (fun k => lockstepref06_Reach.l1 k w (rbn S.length X) (t : Int) (i : Int) (up2 S) P) v := by
  have hle := h.le
  induction d with
  | zero =>
    intro i X hd hi hK
    refine Ev.succ ?_; simp only [lockstepref06_Reach.l1]
    refine Ev.ifn (by rw [rbn_length]; omega) ?_
    rw [wrap_nat (by omega)]
    exact hK X (Sub.refl _ _ _) (fun a h1 h2 => by omega)
  | succ d ih =>
    intro i X hd hi hK
    refine Ev.succ ?_; simp only [lockstepref06_Reach.l1]
    refine Ev.ifp (by rw [rbn_length]; omega) ?_
    refine reach_l2 h P w t i (by omega) v _ 0 X rfl (by omega) (fun Y hY hYi => ?_)
    refine ih (i + 1) Y (by omega) (by omega) (fun Z hZ hZi => hK Z (hY.trans hZ) (fun a h1 h2 hXa y hy hyw => ?_))
    by_cases e : a = i
    · subst e
      exact hZ.1 y (hYi hXa y (by simpa using hy) hyw)
    · exact hZi a (by omega) h2 (hY.1 a hXa) y hy hyw
noncomputable def rchb (S : List (List Nat)) (w : Int) (r : Nat) : Sn := fun z => @decide (Rch S w r z) (Classical.propDecidable _)
theorem rchb_true {S : List (List Nat)} {w : Int} {r z : Nat} : rchb S w r z = true ↔ Rch S w r z := by unfold rchb; exact @decide_eq_true_iff _ (Classical.propDecidable _)
theorem rch_closed (S : List (List Nat)) (w : Int) (r : Nat) : Closed S w (Rch S w r) := fun _ ha _ hy hw => .step ha hy hw
theorem closed_eq {S : List (List Nat)} {w : Int} {r : Nat} {X : Sn} (hr : X r = true) (hX : ∀ z, X z = true → Rch S w r z) (hc : Closed S w (fun z => X z = true)) : X = rchb S w r := by
  funext z
  have e : X z = true ↔ rchb S w r z = true := by
    rw [rchb_true]
    refine ⟨hX z, fun hz => ?_⟩
    induction hz with
    | base _ => exact hr
    | @step a y _ hy hw ih => exact hc a ih y hy hw
  cases h1 : X z <;> cases h2 : rchb S w r z
  · rfl
  · rw [h1, h2] at e; exact absurd (e.mpr rfl) (by decide)
  · rw [h1, h2] at e; exact absurd (e.mp rfl) (by decide)
  · rfl
theorem reach_l0 {S : List (List Nat)} (h : Gr S) (P : List (List Int)) (w : Int) (r : Nat) (hr : r < S.length) (d : Nat) :
    ∀ (t : Nat) (X : Sn), S.length - t = d → t ≤ S.length → X r = true → (∀ z, X z = true → Rch S w r z) → (Closed S w (fun z => X z = true) ∨ t + 1 + cnt S.length X ≤ S.length) →
    Ev (fun k => lockstepref06_Reach.l0 k w (rbn S.length X) (t : Int) (up2 S) P) (rbn S.length (rchb S w r)) := by
  have hle := h.le
  induction d with
  | zero =>
    intro t X hd ht hXr hX hI
    refine Ev.succ ?_; simp only [lockstepref06_Reach.l0]
    refine Ev.ifn (by rw [rbn_length]; omega) ?_
    rcases hI with hc | hc
    · rw [closed_eq hXr hX hc]; exact Ev.pure
    · omega
  | succ d ih =>
    intro t X hd ht hXr hX hI
    refine Ev.succ ?_; simp only [lockstepref06_Reach.l0]
    refine Ev.ifp (by rw [rbn_length]; omega) ?_
    refine reach_l1 h P w t (by omega) _ _ 0 X rfl (by omega) (fun Y hY hYa => ?_)
    refine ih (t + 1) Y (by omega) (by omega) (hY.1 r hXr) (hY.2 _ (rch_closed S w r) hX) ?_
    by_cases hc : Closed S w (fun z => X z = true)
    · refine .inl (fun a ha y hy hw => ?_)
      exact hY.1 y (hc a (hY.2 _ hc (fun _ hz => hz) a ha) y hy hw)
    · right
      rcases hI with hc' | hI
      · exact absurd hc' hc
      · have : ∃ a y, X a = true ∧ y ∈ S.getD a [] ∧ (y : Int) ≠ w ∧ X y = false := by
          refine Classical.byContradiction (fun hn => hc (fun a ha y hy hw => ?_))
          cases hq : X y with
          | true => exact hq
          | false => exact absurd ⟨a, y, ha, hy, hw, hq⟩ hn
        obtain ⟨a, y, ha, hy, hw, hq⟩ := this
        have haS := (hX a ha).lt h hr
        have := cnt_lt hY.1 ((h.row a haS).2 y hy) hq (hYa a (Nat.zero_le _) haS ha y hy hw)
        omega
theorem reach_ok {S : List (List Nat)} (h : Gr S) (P : List (List Int)) (w : Int) (r : Nat) (hr : r < S.length) : Ev (fun k => lockstepref06_Reach.f k (up2 S) P (r : Int) w) (rbn S.length (rchb S w r)) := by
  have hle := h.le
  unfold lockstepref06_Reach.f
  have e0 : List.replicate (((up2 S).length : Int)).toNat false = rbn S.length none' := by
    rw [up2_length, Int.toNat_natCast]
    apply List.ext_getElem
    · simp
    · intro j h1 h2; simp [rbn, none']
  refine Ev.ifp (by omega) (Ev.ifp (by rw [up2_length]; omega) ?_)
  rw [e0]
  simp only [Option.bind_some]
  by_cases hw : (r : Int) = w
  · refine Ev.ifp hw (Ev.pure.of_eq ?_)
    congr 1
    funext z
    cases hq : rchb S w r z with
    | false => rfl
    | true =>
      have h1 := rchb_true.mp hq
      exfalso
      induction h1 with
      | base h2 => exact h2 hw
      | step h1 _ _ ih => exact ih (rchb_true.mpr h1)
  · refine Ev.ifn hw (Ev.ifp (by omega) (Ev.ifp (by rw [rbn_length]; omega) ?_))
    rw [Int.toNat_natCast, set_rbn]
    have hu := cnt_upd (n := S.length) (s := none') hr rfl
    rw [cnt_none] at hu
    refine reach_l0 h P w r hr S.length 0 (upd none' r) (by omega) (by omega) (upd_self _ _) (fun z hz => ?_) (.inr (by omega))
    rcases upd_true.mp hz with e | e
    · subst e; exact .base hw
    · cases e

theorem ints_l0 (d : Nat) : ∀ (i : Nat) (a b : List Int), a.length = b.length → a.length ≤ big → i ≤ a.length → a.length - i = d → Ev (fun k => lockstepref02_Ints.l0 k a b (i : Int)) (decide (a.drop i = b.drop i)) := by
  induction d with
  | zero =>
    intro i a b hl hb hi hd
    refine Ev.succ ?_; simp only [lockstepref02_Ints.l0]
    refine Ev.ifn (by omega) ?_
    rw [List.drop_of_length_le (by omega), List.drop_of_length_le (by omega)]
    exact Ev.pure.of_eq (by simp)
  | succ d ih =>
    intro i a b hl hb hi hd
    have hbb : big = 9223372036854775807 := rfl
    refine Ev.succ ?_; simp only [lockstepref02_Ints.l0]
    refine Ev.ifp (by omega) (Ev.ifp (by omega) (Ev.ifp (by omega) ?_))
    rw [show rd a (i : Int) = a.getD i 0 by simp [rd], show rd b (i : Int) = b.getD i 0 by simp [rd]]
    rw [drop_getD a i 0 (by omega), drop_getD b i 0 (by omega)]
    by_cases h : a.getD i 0 = b.getD i 0
    · refine Ev.ifp h ?_
      rw [wrap_nat (by omega)]
      exact (ih (i + 1) a b hl hb (by omega) (by omega)).of_eq (by rw [h]; simp)
    · refine Ev.ifn h (Ev.pure.of_eq ?_)
      rw [decide_eq_false]
      intro he; injection he with h1 _; exact h h1
theorem ints_ok (a b : List Int) (hb : a.length ≤ big) : Ev (fun k => lockstepref02_Ints.f k a b) (decide (a = b)) := by
  unfold lockstepref02_Ints.f
  by_cases h : a.length = b.length
  · refine Ev.ifp (by omega) ?_
    simpa using ints_l0 a.length 0 a b h hb (by omega) (by omega)
  · refine Ev.ifn (by omega) (Ev.pure.of_eq ?_)
    rw [decide_eq_false]
    intro he; exact h (by rw [he])
theorem has_l0 (x : Int) (d : Nat) : ∀ (i : Nat) (a : List Int), a.length ≤ big → i ≤ a.length → a.length - i = d → Ev (fun k => lockstepref06_Has.l0 k a x (i : Int)) (decide (x ∈ a.drop i)) := by
  induction d with
  | zero =>
    intro i a hb hi hd
    refine Ev.succ ?_; simp only [lockstepref06_Has.l0]
    refine Ev.ifn (by omega) ?_
    rw [List.drop_of_length_le (by omega)]
    exact Ev.pure.of_eq (by simp)
  | succ d ih =>
    intro i a hb hi hd
    have hbb : big = 9223372036854775807 := rfl
    refine Ev.succ ?_; simp only [lockstepref06_Has.l0]
    refine Ev.ifp (by omega) (Ev.ifp (by omega) ?_)
    rw [show rd a (i : Int) = a.getD i 0 by simp [rd]]
    rw [drop_getD a i 0 (by omega)]
    by_cases h : a.getD i 0 = x
    · exact Ev.ifp h (Ev.pure.of_eq (by rw [h]; simp))
    · refine Ev.ifn h ?_
      rw [wrap_nat (by omega)]
      refine (ih (i + 1) a hb (by omega) (by omega)).of_eq ?_
      by_cases hm : x ∈ a.drop (i + 1)
      · rw [decide_eq_true hm, decide_eq_true (List.mem_cons_of_mem _ hm)]
      · rw [decide_eq_false hm, decide_eq_false (fun hc => by
          rcases List.mem_cons.mp hc with e | e
          · exact h e.symm
          · exact hm e)]
theorem has_ok (a : List Int) (x : Int) (hb : a.length ≤ big) : Ev (fun k => lockstepref06_Has.f k a x) (decide (x ∈ a)) := by
  unfold lockstepref06_Has.f
  simpa using has_l0 x a.length 0 a hb (by omega) (by omega)
theorem has_up (l : List Nat) (x : Nat) (hb : l.length ≤ big) : Ev (fun k => lockstepref06_Has.f k (up l) (x : Int)) (decide (x ∈ l)) := by
  refine (has_ok (up l) x (by rw [up_length]; exact hb)).of_eq ?_
  have e : (x : Int) ∈ up l ↔ x ∈ l := by
    simp only [up, List.mem_map]
    constructor
    · rintro ⟨y, hy, e⟩; rw [show x = y by omega]; exact hy
    · intro h; exact ⟨x, h, rfl⟩
  by_cases h : x ∈ l
  · rw [decide_eq_true h, decide_eq_true (e.mpr h)]
  · rw [decide_eq_false h, decide_eq_false (fun hc => h (e.mp hc))]

theorem same_l1 (b a : List (List Int)) (d : List (List Int)) (c : List (List Int)) (hl : a.length = b.length) (hb : a.length ≤ big) (hr : ∀ l ∈ a, l.length ≤ big) (m : Nat) : ∀ i, i ≤ a.length → a.length - i = m →
    Ev (fun k => lockstepref06_Same.l1 k (i : Int) c a d b) (decide (a.drop i = b.drop i)) := by
  have hbb : big = 9223372036854775807 := rfl
  induction m with
  | zero =>
    intro i hi hd
    refine Ev.succ ?_; simp only [lockstepref06_Same.l1]
    refine Ev.ifn (by omega) ?_
    rw [List.drop_of_length_le (by omega), List.drop_of_length_le (by omega)]
    exact Ev.pure.of_eq (by simp)
  | succ m ih =>
    intro i hi hd
    refine Ev.succ ?_; simp only [lockstepref06_Same.l1]
    refine Ev.ifp (by omega) (Ev.ifp (by omega) (Ev.ifp (by omega) ?_))
    rw [show rd_L1 a (i : Int) = a.getD i [] by simp [rd_L1], show rd_L1 b (i : Int) = b.getD i [] by simp [rd_L1]]
    refine Ev.bind (ints_ok _ _ (hr _ (getD_mem (by omega)))) ?_
    rw [drop_getD a i [] (by omega), drop_getD b i [] (by omega)]
    by_cases h : a.getD i [] = b.getD i []
    · refine Ev.ifp (by rw [decide_eq_true h]) ?_
      rw [wrap_nat (by omega)]
      exact (ih (i + 1) (by omega) (by omega)).of_eq (by rw [h]; simp)
    · refine Ev.ifn (by rw [decide_eq_false h]; decide) (Ev.pure.of_eq ?_)
      rw [decide_eq_false]
      intro he; injection he with h1 _; exact h h1
theorem same_l0 (a b c d : List (List Int)) (hl : a.length = c.length) (hb : a.length ≤ big) (hr : ∀ l ∈ a, l.length ≤ big) (hl' : b.length = d.length) (hb' : b.length ≤ big) (hr' : ∀ l ∈ b, l.length ≤ big) (m : Nat) : ∀ i, i ≤ a.length → a.length - i = m →
    Ev (fun k => lockstepref06_Same.l0 k (i : Int) a b c d) (decide (a.drop i = c.drop i ∧ b = d)) := by
  have hbb : big = 9223372036854775807 := rfl
  induction m with
  | zero =>
    intro i hi hd
    refine Ev.succ ?_; simp only [lockstepref06_Same.l0]
    refine Ev.ifn (by omega) ?_
    rw [List.drop_of_length_le (by omega), List.drop_of_length_le (by omega)]
    have := same_l1 d b c a hl' hb' hr' b.length 0 (by omega) (by omega)
    exact this.of_eq (by simp)
  | succ m ih =>
    intro i hi hd
    refine Ev.succ ?_; simp only [lockstepref06_Same.l0]
    refine Ev.ifp (by omega) (Ev.ifp (by omega) (Ev.ifp (by omega) ?_))
    rw [show rd_L1 a (i : Int) = a.getD i [] by simp [rd_L1], show rd_L1 c (i : Int) = c.getD i [] by simp [rd_L1]]
    refine Ev.bind (ints_ok _ _ (hr _ (getD_mem (by omega)))) ?_
    rw [drop_getD a i [] (by omega), drop_getD c i [] (by omega)]
    by_cases h : a.getD i [] = c.getD i []
    · refine Ev.ifp (by rw [decide_eq_true h]) ?_
      rw [wrap_nat (by omega)]
      exact (ih (i + 1) (by omega) (by omega)).of_eq (by rw [h]; simp)
    · refine Ev.ifn (by rw [decide_eq_false h]; decide) (Ev.pure.of_eq ?_)
      rw [decide_eq_false]
      rintro ⟨he, _⟩; injection he with h1 _; exact h h1
theorem same_ok (a b c d : List (List Int)) (hb : a.length ≤ big) (hr : ∀ l ∈ a, l.length ≤ big) (hb' : b.length ≤ big) (hr' : ∀ l ∈ b, l.length ≤ big) : Ev (fun k => lockstepref06_Same.f k a b c d) (decide (a = c ∧ b = d)) := by
  have hbb : big = 9223372036854775807 := rfl
  unfold lockstepref06_Same.f
  have hj : ¬ (a = c ∧ b = d) → Ev (fun k => lockstepref06_Same.j0 k true a b c d) (decide (a = c ∧ b = d)) := by
    intro h
    refine Ev.succ ?_; simp only [lockstepref06_Same.j0]
    exact Ev.ifp trivial (Ev.pure.of_eq (by rw [decide_eq_false h]))
  by_cases h : a.length = c.length
  · refine Ev.ifp (by omega) ?_
    by_cases h' : b.length = d.length
    · rw [show ((b.length : Int) != (d.length : Int)) = false by rw [h']; simp]
      refine Ev.succ ?_; simp only [lockstepref06_Same.j0]
      refine Ev.ifn (by decide) ?_
      have := same_l0 a b c d h hb hr h' hb' hr' a.length 0 (by omega) (by omega)
      exact this.of_eq (by simp)
    · rw [show ((b.length : Int) != (d.length : Int)) = true by simp; omega]
      exact hj (fun hc => h' (by rw [hc.2]))
  · exact Ev.ifn (by omega) (hj (fun hc => h (by rw [hc.1])))

/-- The ways back when blocks below i are done, and of block i those from blocks below m. -/
def bkAt (S : List (List Nat)) (i m j : Nat) : List Nat := if j < i then (List.range S.length).filter (fun a => decide (j ∈ S.getD a [])) else if j = i then (List.range m).filter (fun a => decide (j ∈ S.getD a [])) else []
def bkI (S : List (List Nat)) (i m : Nat) : List (List Int) := (List.range S.length).map fun j => up (bkAt S i m j)
@[simp] theorem bkI_length (S : List (List Nat)) (i m : Nat) : (bkI S i m).length = S.length := by simp [bkI]
theorem bkI_succ (S : List (List Nat)) (i : Nat) : bkI S i S.length = bkI S (i + 1) 0 := by
  unfold bkI
  refine List.map_congr_left (fun j _ => ?_)
  congr 1
  unfold bkAt
  by_cases h1 : j < i
  · rw [if_pos h1, if_pos (by omega)]
  · rw [if_neg h1]
    by_cases h2 : j = i
    · rw [if_pos h2, if_pos (by omega)]
    · rw [if_neg h2, if_neg (by omega)]
      split <;> rfl
theorem bkI_end (S : List (List Nat)) : bkI S S.length 0 = up2 (pr S) := by
  simp only [bkI, pr, up2, List.map_map]
  refine List.map_congr_left (fun j hj => ?_)
  have := List.mem_range.mp hj
  simp [bkAt, this]
theorem rmake_l3 {S : List (List Nat)} (h : Gr S) (i : Nat) (hi : i < S.length) (v : List (List Int) × List (List Int) × Int)
    (H : Ev (fun k => lockstepref06_Make.l2 k (up2 S) (S.length : Int) ((i + 1 : Nat) : Int) (up2 S) (bkI S (i + 1) 0)) v) (d : Nat) :
    ∀ m, m ≤ S.length → S.length - m = d → Ev (fun k => lockstepref06_Make.l3 k (up2 S) (S.length : Int) (i : Int) (m : Int) (up2 S) (bkI S i m)) v := by
  have hle := h.le
  have hbb : big = 9223372036854775807 := rfl
  induction d with
  | zero =>
    intro m hm hd
    refine Ev.succ ?_; simp only [lockstepref06_Make.l3]
    refine Ev.ifn (by omega) ?_
    rw [wrap_nat (by omega), show m = S.length by omega, bkI_succ]
    exact H
  | succ d ih =>
    intro m hm hd
    have hm1 : m < S.length := by omega
    have hlen := gr_len h hm1
    refine Ev.succ ?_; simp only [lockstepref06_Make.l3]
    refine Ev.ifp (by omega) (Ev.ifp (by omega) (Ev.ifp (by rw [up2_length]; omega) ?_))
    rw [rdL_up]
    refine Ev.bind (has_up _ i (by omega)) ?_
    by_cases hc : i ∈ S.getD m []
    · rw [decide_eq_true hc]
      have hrow : rd_L1 (bkI S i m) (i : Int) = up (bkAt S i m i) := by
        simp only [rd_L1, Int.toNat_natCast, bkI]
        exact getD_map_range _ _ _ _ hi
      have hpl : (bkAt S i m i).length ≤ 64 := by
        unfold bkAt; rw [if_neg (by omega), if_pos rfl]
        have := List.length_filter_le (fun a => decide (i ∈ S.getD a [])) (List.range m)
        rw [List.length_range] at this; omega
      refine Ev.ifp rfl (Ev.ifp (by omega) (Ev.ifp (by rw [bkI_length]; omega) ?_))
      rw [hrow]
      refine Ev.ifp (by rw [up_length]; omega) ?_
      have hset : (bkI S i m).set i (up (bkAt S i m i) ++ [(m : Int)]) = bkI S i (m + 1) := by
        refine set_map_range _ _ _ _ _ ?_ (fun j hj => ?_)
        · unfold bkAt; rw [if_neg (by omega), if_pos rfl, if_neg (by omega), if_pos rfl, List.range_succ, List.filter_append, List.filter_cons_of_pos (by simpa using hc)]
          simp [up]
        · unfold bkAt
          by_cases h1 : j < i
          · rw [if_pos h1, if_pos h1]
          · rw [if_neg h1, if_neg h1, if_neg hj, if_neg hj]
      rw [Int.toNat_natCast, hset, wrap_nat (by omega)]
      exact ih (m + 1) (by omega) (by omega)
    · rw [decide_eq_false hc]
      refine Ev.ifn (by decide) ?_
      have hset : bkI S i m = bkI S i (m + 1) := by
        unfold bkI
        refine List.map_congr_left (fun j _ => ?_)
        congr 1
        unfold bkAt
        by_cases h1 : j < i
        · rw [if_pos h1, if_pos h1]
        · rw [if_neg h1, if_neg h1]
          by_cases h2 : j = i
          · subst h2
            rw [if_pos rfl, if_pos rfl, List.range_succ, List.filter_append, List.filter_cons_of_neg (by simpa using hc)]
            simp
          · rw [if_neg h2, if_neg h2]
      rw [hset, wrap_nat (by omega)]
      exact ih (m + 1) (by omega) (by omega)
theorem rmake_l2 {S : List (List Nat)} (h : Gr S) (d : Nat) : ∀ i, i ≤ S.length → S.length - i = d → Ev (fun k => lockstepref06_Make.l2 k (up2 S) (S.length : Int) (i : Int) (up2 S) (bkI S i 0)) (up2 S, up2 (pr S), 0) := by
  have hle := h.le
  induction d with
  | zero =>
    intro i hi hd
    refine Ev.succ ?_; simp only [lockstepref06_Make.l2]
    refine Ev.ifn (by omega) ?_
    rw [show i = S.length by omega, bkI_end]; exact Ev.pure
  | succ d ih =>
    intro i hi hd
    refine Ev.succ ?_; simp only [lockstepref06_Make.l2]
    refine Ev.ifp (by omega) ?_
    exact rmake_l3 h i (by omega) _ (ih (i + 1) (by omega) (by omega)) _ 0 (by omega) rfl
/-- From place j on, each number in the list is below n and greater than the one ahead. -/
def okFrom (n : Int) (l : List Int) (j : Nat) : Bool := rsg n (if j = 0 then -1 else l.getD (j - 1) 0) (l.drop j)
theorem okFrom_step (n : Int) (l : List Int) (j : Nat) (hj : j < l.length) : okFrom n l j = (if l.getD j 0 ≤ (if j = 0 then -1 else l.getD (j - 1) 0) then false else if l.getD j 0 ≥ n then false else okFrom n l (j + 1)) := by
  unfold okFrom
  rw [drop_getD l j 0 hj]
  simp only [rsg, Nat.succ_ne_zero, if_false, Nat.add_sub_cancel]
theorem rmake_l1 (s : List (List Int)) (hs : s.length ≤ 64) (i : Nat) (hi : i < s.length) (hl : (s.getD i []).length ≤ big) (v : List (List Int) × List (List Int) × Int) (d : Nat) :
    ∀ j, j ≤ (s.getD i []).length → (s.getD i []).length - j = d → (0 < j → 0 ≤ (s.getD i []).getD (j - 1) 0) →
    (okFrom (s.length : Int) (s.getD i []) j = true → Ev (fun k => lockstepref06_Make.l0 k s (s.length : Int) ((i + 1 : Nat) : Int)) v) → (okFrom (s.length : Int) (s.getD i []) j = false → v = ([], [], 5)) →
    Ev (fun k => lockstepref06_Make.l1 k s (s.length : Int) (i : Int) (j : Int)) v := by
  have hbb : big = 9223372036854775807 := rfl
  have hrd : rd_L1 s (i : Int) = s.getD i [] := by simp [rd_L1]
  induction d with
  | zero =>
    intro j hj hd hp H1 H2
    refine Ev.succ ?_; simp only [lockstepref06_Make.l1]
    rw [hrd]
    refine Ev.ifp (by omega) (Ev.ifp (by omega) (Ev.ifn (by omega) ?_))
    rw [wrap_nat (by omega)]
    refine H1 ?_
    unfold okFrom; rw [List.drop_of_length_le (by omega)]; rfl
  | succ d ih =>
    intro j hj hd hp H1 H2
    have hj1 : j < (s.getD i []).length := by omega
    have hrx : rd (s.getD i []) (j : Int) = (s.getD i []).getD j 0 := by simp [rd]
    have hok := okFrom_step (s.length : Int) (s.getD i []) j hj1
    have hnext := ih (j + 1) (by omega) (by omega)
    rw [Nat.add_sub_cancel] at hnext
    refine Ev.succ ?_; simp only [lockstepref06_Make.l1]
    rw [hrd, hrx, wrap_nat (by omega)]
    refine Ev.ifp (by omega) (Ev.ifp (by omega) (Ev.ifp (by omega) (Ev.ifp (by omega) ?_)))
    generalize (s.getD i []).getD j 0 = x at hok hnext
    by_cases hx : x < 0
    · refine Ev.ifp hx (Ev.pure.of_eq (H2 ?_).symm)
      rw [hok, if_pos]
      split
      · omega
      · have := hp (by omega); omega
    · refine Ev.ifn hx ?_
      by_cases hx2 : x ≥ (s.length : Int)
      · refine Ev.ifp hx2 (Ev.pure.of_eq (H2 ?_).symm)
        rw [hok, if_pos hx2]
        exact ite_self _
      · refine Ev.ifn hx2 ?_
        by_cases h0 : j = 0
        · subst h0
          refine Ev.ifn (by omega) ?_
          rw [if_pos rfl, if_neg (by omega), if_neg hx2] at hok
          exact hnext (fun _ => by omega) (fun h => H1 (by rw [hok]; exact h)) (fun h => H2 (by rw [hok]; exact h))
        · refine Ev.ifp (by omega) ?_
          have ew : wrap64 ((j : Int) - 1) = ((j - 1 : Nat) : Int) := by rw [wrap_id (by omega) (by omega)]; omega
          have hrp : rd (s.getD i []) ((j - 1 : Nat) : Int) = (s.getD i []).getD (j - 1) 0 := by simp [rd]
          rw [ew, hrp]
          rw [if_neg h0] at hok
          refine Ev.ifp (by omega) (Ev.ifp (by omega) ?_)
          by_cases hx3 : x ≤ (s.getD i []).getD (j - 1) 0
          · refine Ev.ifp hx3 (Ev.pure.of_eq (H2 ?_).symm)
            rw [hok, if_pos hx3]
          · refine Ev.ifn hx3 ?_
            rw [if_neg hx3, if_neg hx2] at hok
            exact hnext (fun _ => by omega) (fun h => H1 (by rw [hok]; exact h)) (fun h => H2 (by rw [hok]; exact h))
theorem rmake_l0 (s : List (List Int)) (hs : s.length ≤ 64) (hr : ∀ l ∈ s, l.length ≤ big) (v : List (List Int) × List (List Int) × Int)
    (H1 : s.all (rsg (s.length : Int) (-1)) = true → Ev (fun k => lockstepref06_Make.l2 k s (s.length : Int) 0 s (List.replicate s.length [])) v) (H2 : s.all (rsg (s.length : Int) (-1)) = false → v = ([], [], 5)) (d : Nat) :
    ∀ i, i ≤ s.length → s.length - i = d → (s.take i).all (rsg (s.length : Int) (-1)) = true → Ev (fun k => lockstepref06_Make.l0 k s (s.length : Int) (i : Int)) v := by
  have hbb : big = 9223372036854775807 := rfl
  induction d with
  | zero =>
    intro i hi hd ha
    refine Ev.succ ?_; simp only [lockstepref06_Make.l0]
    refine Ev.ifn (by omega) (Ev.ifp (by omega) (Ev.ifp (by omega) ?_))
    rw [Int.toNat_natCast]
    exact H1 (by rw [List.take_of_length_le (by omega)] at ha; exact ha)
  | succ d ih =>
    intro i hi hd ha
    have hi1 : i < s.length := by omega
    refine Ev.succ ?_; simp only [lockstepref06_Make.l0]
    refine Ev.ifp (by omega) ?_
    have h0 : okFrom (s.length : Int) (s.getD i []) 0 = rsg (s.length : Int) (-1) (s.getD i []) := by unfold okFrom; rw [if_pos rfl, List.drop_zero]
    refine rmake_l1 s hs i hi1 (hr _ (getD_mem hi1)) v _ 0 (by omega) rfl (fun h => by omega) (fun h => ?_) (fun h => ?_)
    · refine ih (i + 1) (by omega) (by omega) ?_
      rw [take_getD s i [] hi1, List.all_append, ha]
      simp only [List.all_cons, List.all_nil, Bool.true_and, Bool.and_true]
      rw [← h0]; exact h
    · refine H2 ?_
      rw [h0] at h
      cases hq : s.all (rsg (s.length : Int) (-1)) with
      | false => rfl
      | true => have := List.all_eq_true.mp hq _ (getD_mem (d := []) hi1); rw [h] at this; cases this
theorem rmake_ok {S : List (List Nat)} (h : Gr S) : Ev (fun k => lockstepref06_Make.f k (up2 S)) (up2 S, up2 (pr S), 0) := by
  have hle := h.le; have hpos := h.pos
  have hbb : big = 9223372036854775807 := rfl
  have hg := gr_good h
  simp only [goodb, Bool.and_eq_true, decide_eq_true_eq] at hg
  unfold lockstepref06_Make.f
  refine Ev.ifn (by rw [up2_length]; omega) ?_
  rw [decide_eq_false (by rw [up2_length]; omega)]
  refine Ev.succ ?_; simp only [lockstepref06_Make.j0]
  refine Ev.ifn (by decide) ?_
  refine rmake_l0 (up2 S) (by rw [up2_length]; exact hle) (fun l hl => by have := gr_rows h l hl; omega) _ (fun _ => ?_) (fun hf => ?_) _ 0 (by omega) rfl (by simp)
  · have e : List.replicate (up2 S).length ([] : List Int) = bkI S 0 0 := by
      rw [up2_length]
      apply List.ext_getElem
      · simp
      · intro j h1 h2; simp [bkI, bkAt]
    rw [e, up2_length]
    exact rmake_l2 h S.length 0 (by omega) (by omega)
  · rw [hg.2.2] at hf; cases hf
theorem rmake_bad {s : List (List Int)} (hr : ∀ l ∈ s, l.length ≤ big) (h : goodb s = false) : Ev (fun k => lockstepref06_Make.f k s) ([], [], 5) := by
  unfold lockstepref06_Make.f
  have hj : ∀ n, Ev (fun k => lockstepref06_Make.j0 k s n true) (([] : List (List Int)), ([] : List (List Int)), (5 : Int)) := by
    intro n; refine Ev.succ ?_; simp only [lockstepref06_Make.j0]; exact Ev.ifp trivial Ev.pure
  by_cases h1 : (s.length : Int) = 0
  · exact Ev.ifp h1 (hj _)
  · refine Ev.ifn h1 ?_
    by_cases h2 : (s.length : Int) > 64
    · rw [decide_eq_true h2]; exact hj _
    · rw [decide_eq_false h2]
      refine Ev.succ ?_; simp only [lockstepref06_Make.j0]
      refine Ev.ifn (by decide) ?_
      have e : s.all (rsg (s.length : Int) (-1)) = false := by
        simp only [goodb] at h
        rw [decide_eq_true (by omega), decide_eq_true (by omega), Bool.true_and, Bool.true_and] at h
        exact h
      exact rmake_l0 s (by omega) hr _ (fun ht => by rw [e] at ht; cases ht) (fun _ => rfl) _ 0 (by omega) rfl (by simp)
theorem rmay_ok {S : List (List Nat)} (h : Gr S) (p : List (List Int)) : Ev (fun k => lockstepref06_May.f k (up2 S) p) (decide (up2 (pr S) = p)) := by
  have hbb : big = 9223372036854775807 := rfl
  have hle := h.le
  unfold lockstepref06_May.f
  refine Ev.bind (rmake_ok h) (Ev.ifp rfl ?_)
  have hle2 := (gr_pr h).le
  refine Ev.bind (same_ok (up2 S) (up2 (pr S)) (up2 S) p (by rw [up2_length]; omega) (fun l hl => by have := gr_rows h l hl; omega) (by rw [up2_length]; omega) (fun l hl => by have := gr_rows (gr_pr h) l hl; omega)) ?_
  exact Ev.pure.of_eq (by simp)
theorem rmay_bad {s : List (List Int)} (hr : ∀ l ∈ s, l.length ≤ big) (h : goodb s = false) (p : List (List Int)) : Ev (fun k => lockstepref06_May.f k s p) false := by
  unfold lockstepref06_May.f
  refine Ev.bind (rmake_bad hr h) ?_
  exact Ev.ifn (by decide) Ev.pure

/-- Whether one dominates another one, as the document finds it. -/
noncomputable def dmb (S : List (List Nat)) (r a b : Nat) : Bool := rchb S (-1) r b && !rchb S (a : Int) r b
theorem dmb_true {S : List (List Nat)} {r a b : Nat} : dmb S r a b = true ↔ Dm S r a b := by
  unfold dmb
  rw [Bool.and_eq_true, rchb_true, Bool.not_eq_true', Bool.eq_false_iff, ne_eq, rchb_true]; rfl
/-- The table so far: a's row as far as j. -/
noncomputable def mtx (S : List (List Nat)) (r a j : Nat) : List (List Bool) := (List.range S.length).map fun i => if i < a then rbn S.length (dmb S r i) else if i = a then rbn S.length (fun b => decide (b < j) && dmb S r a b) else []
noncomputable def mt0 (S : List (List Nat)) (r a : Nat) : List (List Bool) := (List.range S.length).map fun i => if i < a then rbn S.length (dmb S r i) else []
@[simp] theorem mtx_length (S : List (List Nat)) (r a j : Nat) : (mtx S r a j).length = S.length := by simp [mtx]
@[simp] theorem mt0_length (S : List (List Nat)) (r a : Nat) : (mt0 S r a).length = S.length := by simp [mt0]
theorem rd_mtx {S : List (List Nat)} {r a j : Nat} (ha : a < S.length) : rd_L3 (mtx S r a j) (a : Int) = rbn S.length (fun b => decide (b < j) && dmb S r a b) := by
  simp only [rd_L3, Int.toNat_natCast, mtx]
  rw [getD_map_range _ _ _ _ ha, if_neg (Nat.lt_irrefl _), if_pos rfl]
theorem rd_mt0 {S : List (List Nat)} {r a i : Nat} (hi : i < S.length) (h : i < a) : rd_L3 (mt0 S r a) (i : Int) = rbn S.length (dmb S r i) := by
  simp only [rd_L3, Int.toNat_natCast, mt0]
  rw [getD_map_range _ _ _ _ hi, if_pos h]
theorem set_mt0 (S : List (List Nat)) (r a : Nat) : (mt0 S r a).set a (List.replicate S.length false) = mtx S r a 0 := by
  refine set_map_range _ _ _ _ _ ?_ (fun j hj => ?_)
  · rw [if_neg (Nat.lt_irrefl _), if_pos rfl]
    apply List.ext_getElem
    · simp
    · intro j h1 h2; simp [rbn]
  · by_cases h : j < a
    · rw [if_pos h, if_pos h]
    · rw [if_neg h, if_neg h, if_neg hj]
theorem set_mtx (S : List (List Nat)) (r a j : Nat) : (mtx S r a j).set a ((rbn S.length (fun b => decide (b < j) && dmb S r a b)).set j (dmb S r a j)) = mtx S r a (j + 1) := by
  refine set_map_range _ _ _ _ _ ?_ (fun i hi => ?_)
  · rw [if_neg (Nat.lt_irrefl _), if_pos rfl]
    refine (set_map_range _ _ _ _ _ ?_ (fun i hi => ?_)).symm
    · rw [decide_eq_true (Nat.lt_succ_self j), Bool.true_and]
    · rw [show decide (i < j + 1) = decide (i < j) from decide_eq_decide.mpr (by omega)]
  · by_cases h : i < a
    · rw [if_pos h, if_pos h]
    · rw [if_neg h, if_neg h, if_neg hi, if_neg hi]
theorem mtx_end (S : List (List Nat)) (r a : Nat) : mtx S r a S.length = mt0 S r (a + 1) := by
  refine List.map_congr_left (fun i hi => ?_)
  by_cases h : i < a
  · rw [if_pos h, if_pos (by omega)]
  · rw [if_neg h]
    by_cases e : i = a
    · rw [if_pos e, if_pos (by omega), e]
      refine List.map_congr_left (fun b hb => ?_)
      rw [decide_eq_true (List.mem_range.mp hb), Bool.true_and]
    · rw [if_neg e, if_neg (by omega)]

/-! #### the entries -/
noncomputable def outL (S : List (List Nat)) (r b : Nat) : List Int := (List.range S.length).map fun i => if i < b then idv S r i else 0
noncomputable def outW (S : List (List Nat)) (r b : Nat) (w : Int) : List Int := (List.range S.length).map fun i => if i < b then idv S r i else if i = b then w else 0
@[simp] theorem outL_length (S : List (List Nat)) (r b : Nat) : (outL S r b).length = S.length := by simp [outL]
@[simp] theorem outW_length (S : List (List Nat)) (r b : Nat) (w : Int) : (outW S r b w).length = S.length := by simp [outW]
theorem set_outL (S : List (List Nat)) (r b : Nat) (w : Int) : (outL S r b).set b w = outW S r b w := by
  refine set_map_range _ _ _ _ _ (by rw [if_neg (Nat.lt_irrefl _), if_pos rfl]) (fun i hi => ?_)
  by_cases h : i < b
  · rw [if_pos h, if_pos h]
  · rw [if_neg h, if_neg h, if_neg hi]
theorem set_outW (S : List (List Nat)) (r b : Nat) (w w' : Int) : (outW S r b w).set b w' = outW S r b w' := by
  refine set_map_range _ _ _ _ _ (by rw [if_neg (Nat.lt_irrefl _), if_pos rfl]) (fun i hi => ?_)
  by_cases h : i < b
  · rw [if_pos h, if_pos h]
  · rw [if_neg h, if_neg h, if_neg hi, if_neg hi]
theorem outW_end (S : List (List Nat)) (r b : Nat) : outW S r b (idv S r b) = outL S r (b + 1) := by
  refine List.map_congr_left (fun i _ => ?_)
  by_cases h : i < b
  · rw [if_pos h, if_pos (by omega)]
  · rw [if_neg h]
    by_cases e : i = b
    · rw [if_pos e, if_pos (by omega), e]
    · rw [if_neg e, if_neg (by omega)]
theorem outL_end (S : List (List Nat)) (r : Nat) : outL S r S.length = dtl S r := by
  refine List.map_congr_left (fun i hi => ?_)
  rw [if_pos (List.mem_range.mp hi)]
section
variable {S : List (List Nat)} {r : Nat} {at_ par : Nat → Nat}
/-- The nearest of those tried so far. -/
def Near (S : List (List Nat)) (r b a : Nat) (w : Int) : Prop := (∀ z, Idm S r z b → z < a → w = (z : Int)) ∧ ((∀ z, Idm S r z b → ¬ z < a) → w = -2)
theorem near_end (hD : Gd S r at_ par) {b : Nat} (hb : b ≠ r) {w : Int} (h : Near S r b S.length w) : w = idv S r b := by
  by_cases hR : Rch S (-1) r b
  · obtain ⟨z, hz⟩ := hD.idm b hR hb
    rw [idv_idm hD.pl hb hz]; exact h.1 z hz ((dm_rch hz.1).lt hD.gr hD.lt)
  · rw [idv_no hD.lt hR]
    exact h.2 (fun z hz => absurd hz.1.1 hR)
theorem rtree_l4 (hD : Gd S r at_ par) {a b : Nat} (ha : a < S.length) (hb : b < S.length) (x1 : Int) (w : Int) (v : List Int)
    (hy : (∀ c, c < S.length → c = b ∨ ¬ Dm S r c b ∨ Dm S r c a) → Ev (fun k => lockstepref07_Tree.l3 k x1 (S.length : Int) (mt0 S r S.length) (outW S r b (a : Int)) (b : Int) ((a + 1 : Nat) : Int)) v)
    (hn : ¬ (∀ c, c < S.length → c = b ∨ ¬ Dm S r c b ∨ Dm S r c a) → Ev (fun k => lockstepref07_Tree.l3 k x1 (S.length : Int) (mt0 S r S.length) (outW S r b w) (b : Int) ((a + 1 : Nat) : Int)) v) (d : Nat) :
    ∀ (c : Nat) (ne : Bool), S.length - c = d → c ≤ S.length → (ne = true ↔ ∀ c', c' < c → c' = b ∨ ¬ Dm S r c' b ∨ Dm S r c' a) →
    Ev (fun k => lockstepref07_Tree.l4 k x1 (S.length : Int) (mt0 S r S.length) (outW S r b w) (b : Int) (a : Int) ne (c : Int)) v := by
  have hle := hD.gr.le
  induction d with
  | zero =>
    intro c ne hd hc hne
    have e : c = S.length := by omega
    subst e
    refine Ev.succ ?_; simp only [lockstepref07_Tree.l4]
    refine Ev.ifn (by omega) ?_
    rw [wrap_nat (by omega), Int.toNat_natCast, set_outW]
    cases ne with
    | true => exact Ev.ifp rfl (Ev.ifp (by omega) (Ev.ifp (by rw [outW_length]; omega) (hy (hne.mp rfl))))
    | false => exact Ev.ifn (by decide) (hn (fun h => by have := hne.mpr h; cases this))
  | succ d ih =>
    intro c ne hd hc hne
    have hcl : c < S.length := by omega
    have hstep : ∀ ne' : Bool, (ne' = true ↔ ∀ c', c' < c + 1 → c' = b ∨ ¬ Dm S r c' b ∨ Dm S r c' a) → Ev (fun k => lockstepref07_Tree.l4 k x1 (S.length : Int) (mt0 S r S.length) (outW S r b w) (b : Int) (a : Int) ne' (wrap64 ((c : Int) + 1))) v := by
      intro ne' h
      rw [wrap_nat (by omega)]; exact ih (c + 1) ne' (by omega) (by omega) h
    refine Ev.succ ?_; simp only [lockstepref07_Tree.l4]
    refine Ev.ifp (by omega) ?_
    cases ne with
    | false =>
      refine Ev.ifn (by decide) (hstep false ⟨fun h => (by cases h), fun h => ?_⟩)
      have := hne.mpr (fun c' hc' => h c' (by omega)); cases this
    | true =>
      refine Ev.ifp rfl ?_
      have hall := hne.mp rfl
      have hext : (c = b ∨ ¬ Dm S r c b ∨ Dm S r c a) → ∀ c', c' < c + 1 → c' = b ∨ ¬ Dm S r c' b ∨ Dm S r c' a := by
        intro h c' hc'
        by_cases e : c' = c
        · rw [e]; exact h
        · exact hall c' (by omega)
      by_cases e : c = b
      · exact Ev.ifp (by omega) (hstep true ⟨fun _ => hext (.inl e), fun _ => rfl⟩)
      · refine Ev.ifn (by omega) (Ev.ifp (by omega) (Ev.ifp (by rw [mt0_length]; omega) (Ev.ifp (by omega) ?_)))
        rw [rd_mt0 hcl hcl]
        refine Ev.ifp (by rw [rbn_length]; omega) ?_
        rw [rd_rbn _ _ hb, rd_rbn _ _ ha]
        by_cases h1 : dmb S r c b = true
        · refine Ev.ifp h1 (Ev.ifp (by omega) (Ev.ifp (by rw [rbn_length]; omega) (hstep _ ?_)))
          rw [dmb_true]
          refine ⟨fun h => hext (.inr (.inr h)), fun h => ?_⟩
          rcases h c (by omega) with h2 | h2 | h2
          · exact absurd h2 e
          · exact absurd (dmb_true.mp h1) h2
          · exact h2
        · exact Ev.ifn h1 (hstep true ⟨fun _ => hext (.inr (.inl (fun h => h1 (dmb_true.mpr h)))), fun _ => rfl⟩)
theorem rtree_l3 (hD : Gd S r at_ par) {b : Nat} (hb : b < S.length) (hbr : b ≠ r) (v : List Int) (hK : Ev (fun k => lockstepref07_Tree.l2 k (r : Int) (S.length : Int) (mt0 S r S.length) (outL S r (b + 1)) ((b + 1 : Nat) : Int)) v) (d : Nat) :
    ∀ (a : Nat) (w : Int), S.length - a = d → a ≤ S.length → Near S r b a w → Ev (fun k => lockstepref07_Tree.l3 k (r : Int) (S.length : Int) (mt0 S r S.length) (outW S r b w) (b : Int) (a : Int)) v := by
  have hle := hD.gr.le
  induction d with
  | zero =>
    intro a w hd ha hN
    have e : a = S.length := by omega
    subst e
    refine Ev.succ ?_; simp only [lockstepref07_Tree.l3]
    refine Ev.ifn (by omega) (Ev.succ ?_); simp only [lockstepref07_Tree.j6]
    refine Ev.ifn (by decide) ?_
    rw [near_end hD hbr hN, outW_end, wrap_nat (by omega)]; exact hK
  | succ d ih =>
    intro a w hd ha hN
    have hal : a < S.length := by omega
    have hskip : ¬ Idm S r a b → Near S r b (a + 1) w := by
      intro h
      refine ⟨fun z hz hlt => ?_, fun h2 => hN.2 (fun z hz hlt => h2 z hz (by omega))⟩
      by_cases e : z = a
      · rw [e] at hz; exact absurd hz h
      · exact hN.1 z hz (by omega)
    have hj7 : ¬ Idm S r a b → Ev (fun k => lockstepref07_Tree.j7 k (r : Int) (S.length : Int) (mt0 S r S.length) (outW S r b w) (b : Int) (a : Int) true) v := by
      intro h
      refine Ev.succ ?_; simp only [lockstepref07_Tree.j7]
      refine Ev.ifp trivial ?_
      rw [wrap_nat (by omega)]
      exact ih (a + 1) w (by omega) (by omega) (hskip h)
    refine Ev.succ ?_; simp only [lockstepref07_Tree.l3]
    refine Ev.ifp (by omega) ?_
    rw [show ((b : Int) != (r : Int)) = true by simp; omega]
    refine Ev.succ ?_; simp only [lockstepref07_Tree.j6]
    refine Ev.ifp trivial ?_
    by_cases e : a = b
    · exact Ev.ifp (by omega) (hj7 (fun h => h.2.1 e))
    · refine Ev.ifn (by omega) (Ev.ifp (by omega) (Ev.ifp (by rw [mt0_length]; omega) (Ev.ifp (by omega) ?_)))
      rw [rd_mt0 hal hal]
      refine Ev.ifp (by rw [rbn_length]; omega) ?_
      rw [rd_rbn _ _ hb]
      cases h1 : dmb S r a b with
      | false => exact hj7 (fun h => by rw [dmb_true.mpr h.1] at h1; cases h1)
      | true =>
        have hdm := dmb_true.mp h1
        refine Ev.succ ?_; simp only [lockstepref07_Tree.j7]
        refine Ev.ifn (by decide) ?_
        refine rtree_l4 hD hal hb (r : Int) w v (fun hy => ?_) (fun hn => ?_) _ 0 true rfl (by omega) ⟨fun _ c' hc' => by omega, fun _ => rfl⟩
        · have hI : Idm S r a b := ⟨hdm, e, fun c hc hcb => by
            rcases hy c ((dm_rch hc).lt hD.gr hD.lt) with h | h | h
            · exact absurd h hcb
            · exact absurd hc h
            · exact h⟩
          refine ih (a + 1) (a : Int) (by omega) (by omega) ⟨fun z hz _ => by rw [idm_unique hD.pl hz hI], fun h2 => absurd (Nat.lt_succ_self a) (h2 a hI)⟩
        · refine ih (a + 1) w (by omega) (by omega) (hskip (fun hI => hn (fun c _ => ?_)))
          by_cases e2 : c = b
          · exact .inl e2
          · by_cases h3 : Dm S r c b
            · exact .inr (.inr (hI.2.2 c h3 e2))
            · exact .inr (.inl h3)
theorem rtree_l2 (hD : Gd S r at_ par) (d : Nat) : ∀ b : Nat, S.length - b = d → b ≤ S.length →
    Ev (fun k => lockstepref07_Tree.l2 k (r : Int) (S.length : Int) (mt0 S r S.length) (outL S r b) (b : Int)) (dtl S r) := by
  have hle := hD.gr.le
  induction d with
  | zero =>
    intro b hd hb
    have e : b = S.length := by omega
    subst e
    refine Ev.succ ?_; simp only [lockstepref07_Tree.l2]
    exact Ev.ifn (by omega) (Ev.pure.of_eq (outL_end S r))
  | succ d ih =>
    intro b hd hb
    have hbl : b < S.length := by omega
    have hnext := ih (b + 1) (by omega) (by omega)
    refine Ev.succ ?_; simp only [lockstepref07_Tree.l2]
    refine Ev.ifp (by omega) (Ev.ifp (by omega) (Ev.ifp (by rw [outL_length]; omega) ?_))
    simp only [Option.bind_some]
    rw [Int.toNat_natCast, set_outL, set_outW]
    by_cases e : b = r
    · refine Ev.ifp (by omega) (Ev.succ ?_); simp only [lockstepref07_Tree.j4]
      refine Ev.succ ?_; simp only [lockstepref07_Tree.l3]
      refine Ev.ifp (by have := hD.lt; omega) ?_
      rw [show ((b : Int) != (r : Int)) = false by rw [e]; simp]
      refine Ev.succ ?_; simp only [lockstepref07_Tree.j6]
      refine Ev.ifn (by decide) ?_
      have e2 : outW S r b (-1) = outL S r (b + 1) := by rw [← outW_end, e, idv_root]
      rw [e2, wrap_nat (by omega)]; exact hnext
    · refine Ev.ifn (by omega) (Ev.succ ?_); simp only [lockstepref07_Tree.j4]
      exact rtree_l3 hD hbl e _ hnext _ 0 (-2) rfl (by omega) ⟨fun z _ h => by omega, fun _ => rfl⟩
theorem rtree_l1 (hD : Gd S r at_ par) {a : Nat} (ha : a < S.length) (P : List (List Int)) (v : List Int) (hK : Ev (fun k => lockstepref07_Tree.l0 k (r : Int) (S.length : Int) (rbn S.length (rchb S (-1) r)) (mt0 S r (a + 1)) ((a + 1 : Nat) : Int) (up2 S) P) v) (d : Nat) :
    ∀ j : Nat, S.length - j = d → j ≤ S.length → Ev (fun k => lockstepref07_Tree.l1 k (r : Int) (S.length : Int) (rbn S.length (rchb S (-1) r)) (mtx S r a j) (a : Int) (rbn S.length (rchb S (a : Int) r)) (j : Int) (up2 S) P) v := by
  have hle := hD.gr.le
  induction d with
  | zero =>
    intro j hd hj
    have e : j = S.length := by omega
    subst e
    refine Ev.succ ?_; simp only [lockstepref07_Tree.l1]
    refine Ev.ifn (by omega) ?_
    rw [mtx_end, wrap_nat (by omega)]; exact hK
  | succ d ih =>
    intro j hd hj
    have hjl : j < S.length := by omega
    refine Ev.succ ?_; simp only [lockstepref07_Tree.l1]
    refine Ev.ifp (by omega) (Ev.ifp (by omega) (Ev.ifp (by rw [mtx_length]; omega) (Ev.ifp (by omega) (Ev.ifp (by rw [rbn_length]; omega) ?_))))
    rw [rd_rbn _ _ hjl, rd_mtx ha]
    have hset : ∀ v' : Bool, v' = dmb S r a j → (mtx S r a j).set ((a : Int)).toNat ((rbn S.length (fun b => decide (b < j) && dmb S r a b)).set ((j : Int)).toNat v') = mtx S r a (j + 1) := by
      intro v' e; rw [e, Int.toNat_natCast, Int.toNat_natCast, set_mtx]
    have hnext := ih (j + 1) (by omega) (by omega)
    by_cases h1 : rchb S (-1) r j = true
    · refine Ev.ifp h1 (Ev.ifp (by rw [rbn_length]; omega) (Ev.ifp (by rw [rbn_length]; omega) ?_))
      rw [rd_rbn _ _ hjl, hset _ (by unfold dmb; rw [h1, Bool.true_and]), wrap_nat (by omega)]; exact hnext
    · refine Ev.ifn h1 (Ev.ifp (by rw [rbn_length]; omega) ?_)
      rw [hset _ (by unfold dmb; rw [Bool.eq_false_iff.mpr h1, Bool.false_and]), wrap_nat (by omega)]; exact hnext
theorem rtree_l0 (hD : Gd S r at_ par) (P : List (List Int)) (d : Nat) : ∀ a : Nat, S.length - a = d → a ≤ S.length →
    Ev (fun k => lockstepref07_Tree.l0 k (r : Int) (S.length : Int) (rbn S.length (rchb S (-1) r)) (mt0 S r a) (a : Int) (up2 S) P) (dtl S r) := by
  have hle := hD.gr.le
  induction d with
  | zero =>
    intro a hd ha
    have e : a = S.length := by omega
    subst e
    refine Ev.succ ?_; simp only [lockstepref07_Tree.l0]
    refine Ev.ifn (by omega) (Ev.ifp (by omega) (Ev.ifp (by omega) ?_))
    have e : List.replicate (S.length : Int).toNat (0 : Int) = outL S r 0 := by
      rw [Int.toNat_natCast]
      apply List.ext_getElem
      · simp
      · intro j h1 h2; simp [outL]
    rw [e]
    exact rtree_l2 hD _ 0 rfl (by omega)
  | succ d ih =>
    intro a hd ha
    have hal : a < S.length := by omega
    refine Ev.succ ?_; simp only [lockstepref07_Tree.l0]
    refine Ev.ifp (by omega) (Ev.ifp (by omega) (Ev.ifp (by omega) (Ev.ifp (by omega) (Ev.ifp (by rw [mt0_length]; omega) ?_))))
    refine Ev.bind (reach_ok hD.gr P (a : Int) r hD.lt) ?_
    rw [Int.toNat_natCast, Int.toNat_natCast, set_mt0]
    exact rtree_l1 hD hal P _ (ih (a + 1) (by omega) (by omega)) _ 0 rfl (by omega)
theorem rtree_ok (hD : Gd S r at_ par) : Ev (fun k => lockstepref07_Tree.f k (up2 S) (up2 (pr S)) (r : Int)) (dtl S r) := by
  have hle := hD.gr.le
  have hlt := hD.lt
  unfold lockstepref07_Tree.f
  refine Ev.bind (rmay_ok hD.gr _) (Ev.ifp (by simp) (Ev.ifn (by omega) ?_))
  rw [decide_eq_false (by rw [up2_length]; omega)]
  refine Ev.succ ?_; simp only [lockstepref07_Tree.j0]
  refine Ev.ifn (by decide) (Ev.bind (reach_ok hD.gr _ (-1) r hlt) (Ev.ifp (by omega) (Ev.ifp (by rw [up2_length]; omega) ?_)))
  have e : List.replicate ((up2 S).length : Int).toNat ([] : List Bool) = mt0 S r 0 := by
    rw [up2_length, Int.toNat_natCast]
    apply List.ext_getElem
    · simp
    · intro j h1 h2; simp [mt0]
  rw [e, up2_length]
  exact rtree_l0 hD _ _ 0 rfl (by omega)
end
theorem rtree_j0 (a : Int) (s p : List (List Int)) : Ev (fun k => lockstepref07_Tree.j0 k a true s p) [] := by
  refine Ev.succ ?_; simp only [lockstepref07_Tree.j0]; exact Ev.ifp trivial Ev.pure
theorem rtree_out {S : List (List Nat)} (h : Gr S) (p : List (List Int)) (r : Int) (hr : r < 0 ∨ (S.length : Int) ≤ r) : Ev (fun k => lockstepref07_Tree.f k (up2 S) p r) [] := by
  unfold lockstepref07_Tree.f
  refine Ev.bind (rmay_ok h _) ?_
  by_cases hp : up2 (pr S) = p
  · refine Ev.ifp (by simp [hp]) ?_
    by_cases h0 : r < 0
    · exact Ev.ifp h0 (rtree_j0 ..)
    · refine Ev.ifn h0 ?_
      rw [decide_eq_true (by rw [up2_length]; omega)]; exact rtree_j0 ..
  · exact Ev.ifn (by simp [hp]) (rtree_j0 ..)
theorem rtree_no {s p : List (List Int)} (r : Int) (hm : Ev (fun k => lockstepref06_May.f k s p) false) : Ev (fun k => lockstepref07_Tree.f k s p r) [] := by
  unfold lockstepref07_Tree.f
  exact Ev.bind hm (Ev.ifn (by decide) (rtree_j0 ..))

/-- Both trees of what may be a graph, or not, are one. -/
theorem trees_same (s p : List (List Int)) (hb : s.length ≤ 64) (hr : ∀ l ∈ s, l.length ≤ big) (r : Int) : ∃ t : List Int, t.length ≤ 64 ∧ Ev (fun k => dom_Tree.f k s p r) t ∧ Ev (fun k => lockstepref07_Tree.f k s p r) t := by
  have hbb : big = 9223372036854775807 := rfl
  cases hg : goodb s with
  | false => exact ⟨[], by simp, tree_no (order_no r (may_bad (by omega) hr hg p)), rtree_no r (rmay_bad hr hg p)⟩
  | true =>
    obtain ⟨S, h, rfl⟩ := good_gr hg
    have hle := h.le
    by_cases hp : up2 (pr S) = p
    · subst hp
      by_cases h0 : r < 0 ∨ (S.length : Int) ≤ r
      · exact ⟨[], by simp, tree_no (order_out h _ r h0), rtree_out h _ r h0⟩
      · obtain ⟨x, rfl⟩ : ∃ x : Nat, r = (x : Int) := ⟨r.toNat, by omega⟩
        have hx : x < S.length := by omega
        obtain ⟨at_, par, hD⟩ := gd_ex h hx
        exact ⟨dtl S x, by rw [dtl_length]; exact hle, tree_ok h hx, rtree_ok hD⟩
    · have h1 := may_ok h p
      have h2 := rmay_ok h p
      rw [decide_eq_false hp] at h1 h2
      exact ⟨[], by simp, tree_no (order_no r h1), rtree_no r h2⟩
theorem domTrees : locksteplaw07_DomTrees.Pure := by
  intro l0 l1 a2 hrow hrow1 ha2
  refine Ev.at ?_
  have hbb : big = 9223372036854775807 := rfl
  have hml : maxLen ≤ big := by decide
  have hb : l0.length ≤ big := Nat.le_trans hrow.1 hml
  have hb1 : l1.length ≤ big := Nat.le_trans hrow1.1 hml
  unfold locksteplaw07_DomTrees.f
  refine Ev.bind awake_ev (Ev.ifp rfl ?_)
  have ht : Ev (fun k => locksteplaw07_DomTrees.j0 k l0 l1 a2 true) true := by
    refine Ev.succ ?_; simp only [locksteplaw07_DomTrees.j0]; exact Ev.ifp trivial Ev.pure
  by_cases h40 : (l0.length : Int) > 40
  · exact Ev.ifp h40 ht
  · refine Ev.ifn h40 ?_
    obtain ⟨b, h1, h2⟩ := small_ev l0 hb
    refine Ev.bind h1 ?_
    cases b with
    | false => exact Ev.ifn (by decide) ht
    | true =>
      refine Ev.ifp rfl ?_
      obtain ⟨b', h3, h4⟩ := small_ev l1 hb1
      refine Ev.bind h3 ?_
      cases b' with
      | false => exact ht
      | true =>
        have hr : ∀ l ∈ l0, l.length ≤ big := fun l hl => by have := (h2 rfl).2 l hl; omega
        refine Ev.succ ?_; simp only [locksteplaw07_DomTrees.j0]
        refine Ev.ifn (by decide) ?_
        obtain ⟨t, g0, g1, g2⟩ := trees_same l0 l1 (by omega) hr a2
        cases hg : goodb l0 with
        | false =>
          refine Ev.bind (make_bad hb hr hg) (Ev.bind g1 (Ev.bind g2 (Ev.bind (ints_ok t t (by omega)) (Ev.ifp (by simp) ?_))))
          exact Ev.ifn (by decide) Ev.pure
        | true =>
          obtain ⟨S, h, rfl⟩ := good_gr hg
          refine Ev.bind (make_ok h) (Ev.bind g1 (Ev.bind g2 (Ev.bind (ints_ok t t (by omega)) (Ev.ifp (by simp) (Ev.ifp rfl ?_)))))
          obtain ⟨t', q0, q1, q2⟩ := trees_same (up2 S) (up2 (pr S)) (by omega) hr a2
          exact Ev.bind q1 (Ev.bind q2 (Ev.bind (ints_ok t' t' (by omega)) (Ev.pure.of_eq (by simp))))
end Go.Proofs.Ythahaajmgnoebaa.GP
namespace Go.Proofs.Ythahaajmgnoebaa.Pure
theorem DomTrees : Go.Proofs.Ythahaajmgnoebaa.G.locksteplaw07_DomTrees.Pure := GP.domTrees
end Go.Proofs.Ythahaajmgnoebaa.Pure
namespace Go.Proofs.Ythahaajmgnoebaa.domTrees
open Go.Proofs.YthahaajmgnoebaaH Go.Proofs.Ythahaajmgnoebaa.G
open Go.ChangeShapes Go.WideShapes Go.ChangeAt Go.RowKit
open Go.ChangeMaps (open_string shut_string)
set_option linter.unusedVariables false
theorem own : ownKnob Try.prog.godebug = none := by kernel_rfl
theorem laidOut : laidOutB Try.prog = true := by kernel_rfl
def IsRow (k : IntKind) (w : World) (a : Option Addr) (len cap : Nat) (zs : List Int) : Prop :=
  (a = none ∧ len = 0 ∧ cap = 0 ∧ zs = []) ∨
  ∃ x, a = some x ∧ len ≤ cap ∧ cap ≤ maxLen ∧ zs.length = cap ∧ (∀ i, i < zs.length → w.cell? (x.add i) = some (.int k (zs.getD i 0))) ∧ ∀ n ∈ zs, (Lit.int k n).wf = true
set_option maxRecDepth 100000 in
theorem lifted (os : Os) (started : os.Started) (H : Type) (enc : TypeId × Value → H) :
    ReturnsInHanded {} Try.checked os 3 .any (Rows.domTreesSpec.pre6 enc Try.prog Try.f3 Rows.domTreesRow.domain false) (Rows.domTreesSpec.post enc Try.prog Try.f3 false true false false) := by
  refine returnsInHanded_of_change_sized (C := Try.checked) own started (by kernel_rfl) Try.func3
    (ChangeSpec.witness6 (enc := enc) (C := Try.checked) false ⟨#[], #[.slice none 0 0, .slice none 0 0, .int .i64 0], []⟩ 8 (by kernel_rfl) (by kernel_rfl) (by kernel_rfl) (by kernel_rfl)) ?_
  intro W base args ds gs before hval0 hW hcnd hsz0 _
  have hsz : (DataW.weightsEach Try.prog (Try.f3.params.toList ++ Rows.domTreesSpec.plain.varTypes Try.prog) (ds ++ gs)).all (· ≤ reachBytes) = true := hsz0
  have hval : ∀ (j : Nat) t v, Try.f3.params[j]? = some t → args[j]? = some v → Value.okWide Try.prog W .any base t v := hval0
  have hW' := hW
  obtain ⟨p, q, hA0, hV, rfl, hfz, hnd⟩ := hW
  have hA : DataW.TrodAll enc Try.prog W 0 (fun _ => true) true Try.f3.params.toList args.toList ds p := hA0
  rw [Try.params3] at hA hval hsz
  obtain ⟨v0, vs0, d0, ds0, p0, q0, hargs, rfl, rfl, h0, r0⟩ := trodAll_cons hA
  obtain ⟨v1, vs1, d1, ds1, p1, q1, rfl, rfl, rfl, h1, r1⟩ := trodAll_cons r0
  obtain ⟨v2, vs2, d2, ds2, p2, q2, rfl, rfl, rfl, h2, r2⟩ := trodAll_cons r1
  obtain ⟨rfl, rfl, rfl⟩ := trodAll_nil r2
  obtain rfl : args = #[v0, v1, v2] := by cases args; simp_all
  obtain ⟨rfl, rfl⟩ := trodVars_none hV
  obtain ⟨a0, len0, cap0, rfl⟩ := okWide_slice Try.underlying22 (hval 0 22 v0 rfl rfl)
  have k0 := h0
  have lt0 : ∀ x ∈ p0, x.block < W.heap.size := by obtain ⟨m, hm⟩ := k0; exact DataW.trod_lt m _ _ _ hm
  obtain ⟨l0, rfl, w0, y0, m0⟩ := C_of_rows Try.underlying22 Try.underlying31 Try.underlying3 (by kernel_rfl) (by kernel_rfl) h0
  obtain ⟨a1, len1, cap1, rfl⟩ := okWide_slice Try.underlying22 (hval 1 22 v1 rfl rfl)
  have k1 := h1
  have lt1 : ∀ x ∈ p1, x.block < W.heap.size := by obtain ⟨m, hm⟩ := k1; exact DataW.trod_lt m _ _ _ hm
  obtain ⟨l1, rfl, w1, y1, m1⟩ := C_of_rows Try.underlying22 Try.underlying31 Try.underlying3 (by kernel_rfl) (by kernel_rfl) h1
  obtain ⟨a2, rfl, rfl, rfl, w2⟩ := open_int Try.underlying3 (hval 2 3 v2 rfl rfl) h2
  clear hA0 hval0 hsz0 hsz
  refine (G.locksteplaw07_DomTrees.walk Pure.DomTrees a0 cap0 l0 a1 cap1 l1 a2 W w0 y0 m0 w1 y1 m1 w2).mono fun e W' ⟨he, bel⟩ => ?_
  subst he
  exact ⟨_, rfl, _, _, _, [], _, [], hW', trodAll_mk1 (shut_bool Try.underlying4 _), (trodAll_cons_mk (Below.trod laidOut (by kernel_rfl) (of_decide_eq_true (by kernel_rfl)) k0 bel lt0) (trodAll_cons_mk (Below.trod laidOut (by kernel_rfl) (of_decide_eq_true (by kernel_rfl)) k1 bel lt1) (trodAll_cons_mk (shut_int Try.underlying3 w2) trodAll_mk0))), rfl, bel.frame _, fun h => by cases h⟩
theorem over : Rows.domTreesRow.holds Try.pinned (OpenSpec.ofChange Rows.domTreesSpec) :=
  OpenClaim.holds_of_wide 3 Try.f3 rfl rfl rfl rfl rfl rfl rfl ⟨rfl, rfl, rfl, rfl, rfl⟩ rfl rfl rfl rfl rfl (by kernel_rfl) Try.func3 (by kernel_rfl)
    (of_decide_eq_true (by kernel_rfl)) (by unfold Func.isWrapper; first | (rw [if_pos (by decide +kernel)]; kernel_rfl) | (rw [if_neg (by decide +kernel)]; exact ⟨rfl, rfl⟩))
    (fun os started H enc _ => lifted os started H enc)
theorem proved : Rows.DomTreesSaid := over
#print axioms proved
end Go.Proofs.Ythahaajmgnoebaa.domTrees
namespace Go.Proofs.Ythahaajmgnoebaa
/-- The row, under a short name, for the claim. -/
theorem domTrees_holds : Rows.DomTreesSaid := domTrees.proved
end Go.Proofs.Ythahaajmgnoebaa
