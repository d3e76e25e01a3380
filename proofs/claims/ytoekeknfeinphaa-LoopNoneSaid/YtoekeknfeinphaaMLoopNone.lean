/- Texts of this session, joined by wip/tools/merge.py. Conditions: each theorem's own. -/
import Derived.Test.YtoekeknfeinphaaMLoopNoneb
import Derived.Test.YtoekeknfeinphaaGx22
import Derived.Test.YtoekeknfeinphaaGx23
import Derived.Test.YtoekeknfeinphaaGx24
import Derived.Test.YtoekeknfeinphaaMLoopNonec
import Derived.Test.YtoekeknfeinphaaHRows
import Derived.Test.YtoekeknfeinphaaRows
import Derived.WalkKit
import Derived.ProofKit
import Derived.OpenShut
import Derived.ShutString
import Derived.ChangeOld
import Derived.Below
import Derived.SizedLaws
import Derived.ChangeSlices
namespace Go.Proofs.Ytoekeknfeinphaa.GP
open Go.RowKit Go.Proofs.Ytoekeknfeinphaa.G Go.Proofs.YtoekeknfeinphaaW.PrintWords

theorem getD_lt {S : List (List Nat)} {a y : Nat} (h : y ∈ S.getD a []) : a < S.length := by
  by_cases h1 : a < S.length
  · exact h1
  · rw [List.getD_eq_getElem?_getD, List.getElem?_eq_none (by omega)] at h; simp at h
theorem Rch.head {S : List (List Nat)} {w : Int} {a y b : Nat} (ha : (a : Int) ≠ w) (hy : y ∈ S.getD a []) (h : Rch S w y b) : Rch S w a b := Rch.trans (.step (.base ha) hy h.first) h

/-! #### the ways back -/
open Classical in
noncomputable def dmb (S : List (List Nat)) (a b : Nat) : Bool := decide (Dm S 0 a b)
theorem dmb_true {S : List (List Nat)} {a b : Nat} : dmb S a b = true ↔ Dm S 0 a b := by simp [dmb]
/-- The ways back from a block, of the first m of its ways. -/
noncomputable def rowb (S : List (List Nat)) (i m : Nat) : List S48 := (((S.getD i []).take m).filter fun b => dmb S b i).map fun b : Nat => (⟨(i : Int), (b : Int)⟩ : S48)
noncomputable def bkt (S : List (List Nat)) : Nat → List S48
  | 0 => []
  | i + 1 => bkt S i ++ rowb S i (S.getD i []).length
noncomputable def bks (S : List (List Nat)) : List S48 := bkt S S.length
theorem rowb_len {S : List (List Nat)} (hG : Gr S) {i : Nat} (hi : i < S.length) (m : Nat) : (rowb S i m).length ≤ 64 := by
  unfold rowb
  rw [List.length_map]
  have h1 := List.length_filter_le (fun b => dmb S b i) ((S.getD i []).take m)
  have h2 : ((S.getD i []).take m).length ≤ (S.getD i []).length := by rw [List.length_take]; omega
  have h3 := gr_len hG hi
  omega
theorem bkt_len {S : List (List Nat)} (hG : Gr S) : ∀ i, i ≤ S.length → (bkt S i).length ≤ 64 * i
  | 0, _ => by simp [bkt]
  | i + 1, hi => by
    have h1 := bkt_len hG i (by omega)
    have h2 := rowb_len hG (i := i) (by omega) (S.getD i []).length
    rw [bkt, List.length_append]; omega
theorem rowb_mem {S : List (List Nat)} {i m : Nat} {x : S48} (h : x ∈ rowb S i m) : ∃ b : Nat, x = ⟨(i : Int), (b : Int)⟩ ∧ b ∈ S.getD i [] ∧ Dm S 0 b i := by
  unfold rowb at h
  obtain ⟨b, hb, rfl⟩ := List.mem_map.mp h
  obtain ⟨h1, h2⟩ := List.mem_filter.mp hb
  exact ⟨b, rfl, List.mem_of_mem_take h1, dmb_true.mp h2⟩
theorem bkt_mem {S : List (List Nat)} {x : S48} : ∀ i, x ∈ bkt S i → ∃ a b : Nat, a < i ∧ x = ⟨(a : Int), (b : Int)⟩ ∧ Bck S a b
  | 0, h => by simp [bkt] at h
  | i + 1, h => by
    rw [bkt] at h
    rcases List.mem_append.mp h with h | h
    · obtain ⟨a, b, h1, h2, h3⟩ := bkt_mem i h; exact ⟨a, b, by omega, h2, h3⟩
    · obtain ⟨b, h1, h2, h3⟩ := rowb_mem h; exact ⟨i, b, by omega, h1, h2, h3⟩
theorem bkt_in {S : List (List Nat)} {a b : Nat} (h : Bck S a b) : ∀ i, a < i → (⟨(a : Int), (b : Int)⟩ : S48) ∈ bkt S i
  | 0, hi => by omega
  | i + 1, hi => by
    rw [bkt]
    by_cases e : a = i
    · subst e
      refine List.mem_append.mpr (.inr ?_)
      unfold rowb
      rw [List.take_length]
      exact List.mem_map.mpr ⟨b, List.mem_filter.mpr ⟨h.1, dmb_true.mpr h.2⟩, rfl⟩
    · exact List.mem_append.mpr (.inl (bkt_in h i (by omega)))
theorem bks_mem {S : List (List Nat)} {a b : Nat} : (⟨(a : Int), (b : Int)⟩ : S48) ∈ bks S ↔ Bck S a b := by
  constructor
  · intro h
    obtain ⟨a', b', _, e, h2⟩ := bkt_mem _ h
    injection e with e1 e2
    rw [show a = a' by omega, show b = b' by omega]; exact h2
  · intro h; exact bkt_in h _ (getD_lt h.1)
section
variable {S : List (List Nat)} {at_ par : Nat → Nat}
theorem over_dmb (hD : Gd S 0 at_ par) {a b : Nat} (ha : a < S.length) (hb : b < S.length) : Ev (fun k => dom_Over.f k (dtl S 0) (a : Int) (b : Int)) (dmb S a b) := hD.over_ev ha hb dmb_true
theorem backs_l1 (hD : Gd S 0 at_ par) {i : Nat} (hi : i < S.length) (v : List S48) (H : Ev (fun k => loop_Backs.l0 k (dtl S 0) (bkt S (i + 1)) (up2 S) (S.length : Int) ((i + 1 : Nat) : Int)) v) (d : Nat) : ∀ m, m ≤ (S.getD i []).length → (S.getD i []).length - m = d →
    Ev (fun k => loop_Backs.l1 k (dtl S 0) (bkt S i ++ rowb S i m) (i : Int) (up2 S) (S.length : Int) (i : Int) (up (S.getD i [])) ((S.getD i []).length : Int) (m : Int)) v := by
  have hG := hD.gr
  have hle := hG.le
  have hrl := gr_len hG hi
  have hbl := bkt_len hG i (by omega)
  induction d with
  | zero =>
    intro m hm hd
    obtain rfl : m = (S.getD i []).length := by omega
    refine Ev.succ ?_; simp only [loop_Backs.l1]
    refine Ev.ifn (by omega) ?_
    rw [wrap_nat (by omega)]; exact H
  | succ d ih =>
    intro m hm hd
    have hml : m < (S.getD i []).length := by omega
    have hy := (hG.row i hi).2 _ (getD_mem (d := 0) hml)
    have h2 := rowb_len hG hi m
    have hn := ih (m + 1) (by omega) (by omega)
    have hs : rowb S i (m + 1) = rowb S i m ++ (if dmb S ((S.getD i []).getD m 0) i = true then [⟨(i : Int), (((S.getD i []).getD m 0 : Nat) : Int)⟩] else []) := by
      unfold rowb
      rw [take_getD _ m 0 hml, List.filter_append, List.map_append]
      cases e : dmb S ((S.getD i []).getD m 0) i with
      | true => rw [List.filter_cons_of_pos (p := fun b => dmb S b i) e]; rfl
      | false => rw [List.filter_cons_of_neg (p := fun b => dmb S b i) (show ¬ dmb S _ i = true by rw [e]; decide)]; simp
    rw [hs] at hn
    refine Ev.succ ?_; simp only [loop_Backs.l1]
    rw [rd_up, wrap_nat (by omega), up_length]
    refine Ev.ifp (by omega) (Ev.ifp (by omega) (Ev.ifp (by omega) (Ev.bind (over_dmb hD hy hi) ?_)))
    cases e : dmb S ((S.getD i []).getD m 0) i with
    | true =>
      rw [e, if_pos rfl, ← List.append_assoc] at hn
      exact Ev.ifp rfl (Ev.ifp (by rw [List.length_append]; omega) hn)
    | false =>
      rw [e, if_neg (by decide), List.append_nil] at hn
      exact Ev.ifn (by decide) hn
theorem backs_l0 (hD : Gd S 0 at_ par) (d : Nat) : ∀ i, i ≤ S.length → S.length - i = d → Ev (fun k => loop_Backs.l0 k (dtl S 0) (bkt S i) (up2 S) (S.length : Int) (i : Int)) (bks S) := by
  induction d with
  | zero =>
    intro i hi hd
    obtain rfl : i = S.length := by omega
    refine Ev.succ ?_; simp only [loop_Backs.l0]
    exact Ev.ifn (by omega) Ev.pure
  | succ d ih =>
    intro i hi hd
    have h := backs_l1 hD (i := i) (by omega) (bks S) (ih (i + 1) (by omega) (by omega)) _ 0 (Nat.zero_le _) rfl
    rw [show rowb S i 0 = [] by simp [rowb], List.append_nil] at h
    refine Ev.succ ?_; simp only [loop_Backs.l0]
    rw [rdL_up, up_length]
    exact Ev.ifp (by omega) (Ev.ifp (by omega) (Ev.ifp (by rw [up2_length]; omega) h))
theorem tree_ok0 (hG : Gr S) : Ev (fun k => dom_Tree.f k (up2 S) (up2 (pr S)) 0) (dtl S 0) := by
  have := tree_ok hG (r := 0) hG.pos
  exact this
theorem backs_ok (hG : Gr S) : Ev (fun k => loop_Backs.f k (up2 S) (up2 (pr S))) (bks S) := by
  obtain ⟨at_, par, hD⟩ := gd_ex hG hG.pos
  unfold loop_Backs.f
  refine Ev.bind (tree_ok0 hG) ?_
  rw [up2_length]
  exact backs_l0 hD S.length 0 (Nat.zero_le _) rfl
end
/-! #### no graph: no tree, no ways back -/
theorem overT_nil (a b : Int) : overT [] a b = false := by
  unfold overT
  rw [show inT [] [a, b] = false from rfl]; rfl
theorem over_nil (a b : Int) : Ev (fun k => dom_Over.f k [] a b) false := (over_ok [] (by simp) a b).of_eq (overT_nil a b)
theorem backs_no_l1 (s : List (List Int)) (i : Nat) (hi : (i : Int) < 9223372036854775807) (r : List Int) (hr : r.length ≤ big) (H : Ev (fun k => loop_Backs.l0 k [] [] s (s.length : Int) ((i + 1 : Nat) : Int)) []) (d : Nat) : ∀ m, m ≤ r.length → r.length - m = d →
    Ev (fun k => loop_Backs.l1 k [] [] (i : Int) s (s.length : Int) (i : Int) r (r.length : Int) (m : Int)) [] := by
  have hbb : big = 9223372036854775807 := rfl
  induction d with
  | zero =>
    intro m hm hd
    refine Ev.succ ?_; simp only [loop_Backs.l1]
    refine Ev.ifn (by omega) ?_
    rw [wrap_nat (by omega)]; exact H
  | succ d ih =>
    intro m hm hd
    refine Ev.succ ?_; simp only [loop_Backs.l1]
    refine Ev.ifp (by omega) (Ev.ifp (by omega) (Ev.ifp (by omega) (Ev.bind (over_nil _ _) (Ev.ifn (by decide) ?_))))
    rw [wrap_nat (i := m) (by omega)]
    exact ih (m + 1) (by omega) (by omega)
theorem backs_no_l0 (s : List (List Int)) (hb : s.length ≤ big) (hr : ∀ l ∈ s, l.length ≤ big) (d : Nat) : ∀ i, i ≤ s.length → s.length - i = d → Ev (fun k => loop_Backs.l0 k [] [] s (s.length : Int) (i : Int)) [] := by
  have hbb : big = 9223372036854775807 := rfl
  induction d with
  | zero =>
    intro i hi hd
    refine Ev.succ ?_; simp only [loop_Backs.l0]
    exact Ev.ifn (by omega) Ev.pure
  | succ d ih =>
    intro i hi hd
    refine Ev.succ ?_; simp only [loop_Backs.l0]
    rw [show rd_L1 s (i : Int) = s.getD i [] by simp [rd_L1]]
    have hrow := hr _ (getD_mem (l := s) (i := i) (d := []) (by omega))
    refine Ev.ifp (by omega) (Ev.ifp (by omega) (Ev.ifp (by omega) ?_))
    exact backs_no_l1 s i (by omega) _ hrow (ih (i + 1) (by omega) (by omega)) _ 0 (Nat.zero_le _) rfl
theorem backs_no {s p : List (List Int)} (hb : s.length ≤ big) (hr : ∀ l ∈ s, l.length ≤ big) (hm : Ev (fun k => graph_May.f k s p) false) : Ev (fun k => loop_Backs.f k s p) [] := by
  unfold loop_Backs.f
  exact Ev.bind (tree_no (order_no 0 hm)) (backs_no_l0 s hb hr s.length 0 (Nat.zero_le _) rfl)

/-! #### where the ways back to a head come from -/
noncomputable def lat (S : List (List Nat)) (i h : Nat) : List Nat := (List.range i).filter fun a => decide (h ∈ S.getD a []) && dmb S h a
noncomputable def lats (S : List (List Nat)) (h : Nat) : List Nat := lat S S.length h
theorem mem_lats {S : List (List Nat)} {h a : Nat} : a ∈ lats S h ↔ Bck S a h := by
  unfold lats lat Bck
  rw [List.mem_filter, List.mem_range, Bool.and_eq_true, decide_eq_true_eq, dmb_true]
  exact ⟨fun h => h.2, fun h => ⟨getD_lt h.1, h⟩⟩
theorem lat_len {S : List (List Nat)} {i h : Nat} : (lat S i h).length ≤ i := by
  have := List.length_filter_le (fun a => decide (h ∈ S.getD a []) && dmb S h a) (List.range i)
  rw [List.length_range] at this; exact this
theorem nodup_pick {l : List Nat} (hn : l.Nodup) (p : Nat → Bool) (x : Nat) : (l.filter p).filter (fun b => decide (b = x)) = if x ∈ l ∧ p x = true then [x] else [] := by
  induction l with
  | nil => simp
  | cons a l ih =>
    have hn' := List.nodup_cons.mp hn
    have ih := ih hn'.2
    by_cases hpa : p a = true
    · rw [List.filter_cons_of_pos hpa]
      by_cases e : a = x
      · subst e
        rw [List.filter_cons_of_pos (by simp), ih, if_neg (fun h => hn'.1 h.1), if_pos ⟨List.mem_cons_self .., hpa⟩]
      · rw [List.filter_cons_of_neg (by simpa using e), ih]
        by_cases h2 : x ∈ l ∧ p x = true
        · rw [if_pos h2, if_pos ⟨List.mem_cons_of_mem _ h2.1, h2.2⟩]
        · rw [if_neg h2, if_neg (fun h => h2 ⟨(List.mem_cons.mp h.1).resolve_left (fun e2 => e e2.symm), h.2⟩)]
    · rw [List.filter_cons_of_neg hpa, ih]
      by_cases h2 : x ∈ l ∧ p x = true
      · rw [if_pos h2, if_pos ⟨List.mem_cons_of_mem _ h2.1, h2.2⟩]
      · rw [if_neg h2, if_neg (fun h => h2 ⟨(List.mem_cons.mp h.1).resolve_left (fun e2 => by subst e2; exact hpa h.2), h.2⟩)]
theorem from_rowb {S : List (List Nat)} (hG : Gr S) {i : Nat} (hi : i < S.length) (h : Nat) : fromOf (rowb S i (S.getD i []).length) (h : Int) = if h ∈ S.getD i [] ∧ dmb S h i = true then [(i : Int)] else [] := by
  unfold rowb fromOf
  rw [List.take_length, List.filter_map]
  have e : ((fun b : S48 => b.f1 == (h : Int)) ∘ fun b : Nat => (⟨(i : Int), (b : Int)⟩ : S48)) = fun b => decide (b = h) := by
    funext b
    show ((b : Int) == (h : Int)) = decide (b = h)
    by_cases e : b = h
    · subst e; simp
    · rw [decide_eq_false e]; simp; omega
  rw [e, nodup_pick (gr_nodup hG hi) (fun b => dmb S b i) h]
  split <;> rfl
theorem from_append (a b : List S48) (h : Int) : fromOf (a ++ b) h = fromOf a h ++ fromOf b h := by unfold fromOf; rw [List.filter_append, List.map_append]
theorem from_bkt {S : List (List Nat)} (hG : Gr S) (h : Nat) : ∀ i, i ≤ S.length → fromOf (bkt S i) (h : Int) = up (lat S i h)
  | 0, _ => by simp [bkt, fromOf, lat, up]
  | i + 1, hi => by
    rw [bkt, from_append, from_bkt hG h i (by omega), from_rowb hG (by omega)]
    unfold lat
    rw [List.range_succ, List.filter_append, up_append]
    congr 1
    by_cases e : h ∈ S.getD i [] ∧ dmb S h i = true
    · rw [if_pos e, List.filter_cons_of_pos (by rw [Bool.and_eq_true, decide_eq_true_eq]; exact e)]; rfl
    · rw [if_neg e, List.filter_cons_of_neg (by rw [Bool.and_eq_true, decide_eq_true_eq]; exact e)]; rfl
theorem from_bks {S : List (List Nat)} (hG : Gr S) (h : Nat) : fromOf (bks S) (h : Int) = up (lats S h) := from_bkt hG h S.length (Nat.le_refl _)

/-! #### a loop's blocks -/
open Classical in
noncomputable def lpb (S : List (List Nat)) (h : Nat) : Sn := fun x => decide (Lp S h x)
theorem lpb_true {S : List (List Nat)} {h x : Nat} : lpb S h x = true ↔ Lp S h x := by simp [lpb]
/-- What going back from the ways' ends has come to. -/
structure Lb (S : List (List Nat)) (h : Nat) (m : Sn) (st : List Nat) : Prop where
  lt : ∀ y, m y = true → y < S.length
  hd : m h = true
  slt : ∀ y ∈ st, y < S.length
  stk : ∀ y ∈ st, y = h ∨ ∃ l, Bck S l h ∧ Rch S (h : Int) y l
  sound : ∀ y, m y = true → Lp S h y
  frm : ∀ l, Bck S l h → m l = true ∨ l ∈ st
  clo : ∀ a, m a = true → a ≠ h → ∀ p, a ∈ S.getD p [] → Rch S (-1) 0 p → m p = true ∨ p ∈ st
theorem Lb.all {S : List (List Nat)} {h : Nat} {m : Sn} (hB : Lb S h m []) : m = lpb S h := by
  funext x
  have hh : m x = true ↔ lpb S h x = true := by
    rw [lpb_true]
    refine ⟨hB.sound x, fun hx => ?_⟩
    rcases hx with rfl | ⟨h1, l, h2, h3⟩
    · exact hB.hd
    · have hl : m l = true := (hB.frm l h2).resolve_right (by simp)
      have key : ∀ z, Rch S (h : Int) x z → m z = true → m x = true := by
        intro z hz
        induction hz with
        | base _ => exact fun hm => hm
        | @step a y ha hy hw ih =>
          intro hm
          exact ih ((hB.clo y hm (fun e => hw (by rw [e])) a hy (h1.trans ha.any)).resolve_right (by simp))
      exact key l h3 hl
  cases e : m x with
  | true => exact (hh.mp e).symm
  | false => cases e2 : lpb S h x with
    | true => rw [hh.mpr e2] at e; cases e
    | false => rfl
section
variable {S : List (List Nat)} {at_ par : Nat → Nat}
theorem body_l1 (hG : Gr S) (m : Sn) (d : Nat) : ∀ i, i ≤ S.length → S.length - i = d → Ev (fun k => loop_body.l1 k (rb m) (up ((List.range i).filter m)) (S.length : Int) (i : Int)) (up ((List.range S.length).filter m)) := by
  have hle := hG.le
  induction d with
  | zero =>
    intro i hi hd
    obtain rfl : i = S.length := by omega
    refine Ev.succ ?_; simp only [loop_body.l1]
    exact Ev.ifn (by omega) Ev.pure
  | succ d ih =>
    intro i hi hd
    have h1 := List.length_filter_le m (List.range i)
    rw [List.length_range] at h1
    have h2 := ih (i + 1) (by omega) (by omega)
    rw [List.range_succ, List.filter_append] at h2
    refine Ev.succ ?_; simp only [loop_body.l1]
    refine Ev.ifp (by omega) (Ev.ifp (by omega) (Ev.ifp (by omega) ?_))
    rw [rd_rb _ (by omega), wrap_nat (by omega), ← up_snoc]
    cases e : m i with
    | true =>
      rw [List.filter_cons_of_pos e] at h2
      exact Ev.ifp rfl (Ev.ifp (by rw [up_length]; omega) h2)
    | false =>
      rw [List.filter_cons_of_neg (by simp [e]), List.filter_nil, List.append_nil] at h2
      exact Ev.ifn (by decide) h2
theorem body_l0 (hD : Gd S 0 at_ par) {h : Nat} (hh : h < S.length) (M : Nat) : ∀ (m : Sn) (st : List Nat), Lb S h m st → st.length + 65 * cnt S.length m ≤ M → M ≤ 100000 →
    Ev (fun k => loop_body.l0 k (dtl S 0) (rb m) (up st) (up2 S) (up2 (pr S))) (up ((List.range S.length).filter (lpb S h))) := by
  have hG := hD.gr
  have hle := hG.le
  induction M with
  | zero =>
    intro m st hB hM _
    obtain rfl : st = [] := List.length_eq_zero_iff.mp (by omega)
    refine Ev.succ ?_; simp only [loop_body.l0]
    refine Ev.ifn (by simp) ?_
    rw [up2_length, ← hB.all]
    exact body_l1 hG m S.length 0 (Nat.zero_le _) rfl
  | succ M ih =>
    intro m st hB hM hC
    rcases List.eq_nil_or_concat st with rfl | ⟨st0, x, rfl⟩
    · refine Ev.succ ?_; simp only [loop_body.l0]
      refine Ev.ifn (by simp) ?_
      rw [up2_length, ← hB.all]
      exact body_l1 hG m S.length 0 (Nat.zero_le _) rfl
    · rw [List.concat_eq_append] at *
      have hl : (st0 ++ [x]).length = st0.length + 1 := by simp
      have hx := hB.slt x (by simp)
      have e1 : wrap64 (((up (st0 ++ [x])).length : Int) - 1) = (st0.length : Int) := by rw [up_length, hl, wrap_id (by omega) (by omega)]; omega
      have hsl : ∀ y ∈ st0, y < S.length := fun y hy => hB.slt y (List.mem_append.mpr (.inl hy))
      have hsk : ∀ y ∈ st0, y = h ∨ ∃ l, Bck S l h ∧ Rch S (h : Int) y l := fun y hy => hB.stk y (List.mem_append.mpr (.inl hy))
      have dropx : (m x = true ∨ ¬ Rch S (-1) 0 x) → Lb S h m st0 := by
        intro hc
        have hkeep : ∀ p, (Rch S (-1) 0 p) → (m p = true ∨ p ∈ st0 ++ [x]) → m p = true ∨ p ∈ st0 := by
          intro p hp h1
          rcases h1 with h1 | h1
          · exact .inl h1
          · rcases List.mem_append.mp h1 with h1 | h1
            · exact .inr h1
            · have e := List.mem_singleton.mp h1
              subst e
              exact .inl (hc.resolve_right (fun h2 => h2 hp))
        exact ⟨hB.lt, hB.hd, hsl, hsk, hB.sound, fun l h1 => hkeep l h1.2.1 (hB.frm l h1), fun a ha hne p hp hr => hkeep p hr (hB.clo a ha hne p hp hr)⟩
      refine Ev.succ ?_; simp only [loop_body.l0]
      rw [e1, rd_snoc]
      refine Ev.ifp (by rw [up_length]; omega) (Ev.ifp (by omega) (Ev.ifp (by rw [up_length]; omega) (Ev.ifp (by rw [up_length]; omega) ?_)))
      rw [up_snoc, Int.toNat_natCast, List.take_left' (by simp)]
      simp only [Option.bind_some]
      refine Ev.ifp (by omega) (Ev.ifp (by omega) ?_)
      rw [rd_rb _ (by omega)]
      rw [hl] at hM
      cases e : m x with
      | true => exact Ev.ifp rfl (ih m st0 (dropx (.inl e)) (by omega) (by omega))
      | false =>
        refine Ev.ifn (by decide) (Ev.bind (over_dmb hD hx hx) ?_)
        by_cases hr : Rch S (-1) 0 x
        · have hu := cnt_upd (n := S.length) hx e
          have hpl := gr_len (gr_pr hG) (i := x) (by rw [pr_length]; exact hx)
          have hxh : x ≠ h := by rintro rfl; rw [hB.hd] at e; cases e
          obtain ⟨l, hl1, hl2⟩ := (hB.stk x (by simp)).resolve_left hxh
          refine Ev.ifp (dmb_true.mpr (dm_refl hr)) (Ev.ifp (by rw [up2_length, pr_length]; omega) ?_)
          rw [rdL_up, Int.toNat_natCast, set_rb, ← up_append, up_length, up_length]
          refine Ev.ifp (by omega) (ih (upd m x) (st0 ++ (pr S).getD x []) ?_ (by rw [List.length_append]; omega) (by omega))
          have hup : ∀ y, m y = true → upd m x y = true := fun y hy => upd_true.mpr (.inr hy)
          have hkeep : ∀ p, (m p = true ∨ p ∈ st0 ++ [x]) → upd m x p = true ∨ p ∈ st0 ++ (pr S).getD x [] := by
            intro p h1
            rcases h1 with h1 | h1
            · exact .inl (hup p h1)
            · rcases List.mem_append.mp h1 with h1 | h1
              · exact .inr (List.mem_append.mpr (.inl h1))
              · exact .inl (upd_true.mpr (.inl (List.mem_singleton.mp h1)))
          refine ⟨fun y hy => ?_, hup h hB.hd, fun y hy => ?_, fun y hy => ?_, fun y hy => ?_, fun l h1 => hkeep l (hB.frm l h1), fun a ha hne p hp hrp => ?_⟩
          · rcases upd_true.mp hy with rfl | hy
            · exact hx
            · exact hB.lt y hy
          · rcases List.mem_append.mp hy with hy | hy
            · exact hsl y hy
            · exact ((mem_pr hx).mp hy).1
          · rcases List.mem_append.mp hy with hy | hy
            · exact hsk y hy
            · by_cases e2 : y = h
              · exact .inl e2
              · exact .inr ⟨l, hl1, Rch.head (by omega) ((mem_pr hx).mp hy).2 hl2⟩
          · rcases upd_true.mp hy with rfl | hy
            · exact .inr ⟨hr, l, hl1, hl2⟩
            · exact hB.sound y hy
          · rcases upd_true.mp ha with rfl | ha
            · exact .inr (List.mem_append.mpr (.inr ((mem_pr hx).mpr ⟨getD_lt hp, hp⟩)))
            · exact hkeep p (hB.clo a ha hne p hp hrp)
        · refine Ev.ifn (fun hc => hr (dmb_true.mp hc).1) (ih m st0 (dropx (.inr hr)) (by omega) (by omega))
theorem body_ok (hD : Gd S 0 at_ par) {h : Nat} (hh : h < S.length) : Ev (fun k => loop_body.f k (up2 S) (up2 (pr S)) (dtl S 0) (h : Int) (up (lats S h))) (up ((List.range S.length).filter (lpb S h))) := by
  have hle := hD.gr.le
  have hll : (lats S h).length ≤ S.length := lat_len
  unfold loop_body.f
  refine Ev.ifp (by omega) (Ev.ifp (by omega) ?_)
  rw [clone_ok _ (by rw [up_length]; omega)]
  simp only [Option.bind_some]
  have e0 : List.replicate 64 false = rb none' := by
    apply List.ext_getElem
    · simp [rb]
    · intro j h1 h2; rw [List.getElem_replicate]; simp [rb, none']
  rw [e0, Int.toNat_natCast, set_rb]
  have hu := cnt_upd (n := S.length) (s := none') hh rfl
  rw [cnt_none] at hu
  refine body_l0 hD hh (64 + 65 * 64) (upd none' h) (lats S h) ?_ (by omega) (by omega)
  refine ⟨fun y hy => ?_, upd_self _ _, fun y hy => getD_lt (mem_lats.mp hy).1, fun y hy => ?_, fun y hy => ?_, fun l h1 => .inr (mem_lats.mpr h1), fun a ha hne => ?_⟩
  · rcases upd_true.mp hy with rfl | hy
    · exact hh
    · cases hy
  · by_cases e : y = h
    · exact .inl e
    · exact .inr ⟨y, mem_lats.mp hy, .base (by omega)⟩
  · rcases upd_true.mp hy with rfl | hy
    · exact .inl rfl
    · cases hy
  · rcases upd_true.mp ha with rfl | ha
    · exact absurd rfl hne
    · cases ha

/-! #### the loops -/
noncomputable def lp1 (S : List (List Nat)) (h : Nat) : S43 := ⟨(h : Int), up ((List.range S.length).filter (lpb S h))⟩
noncomputable def hds (S : List (List Nat)) (i : Nat) : List Nat := (List.range i).filter fun h => decide (0 < (lats S h).length)
noncomputable def lps (S : List (List Nat)) : List S43 := (hds S S.length).map (lp1 S)
theorem hds_len {i : Nat} : (hds S i).length ≤ i := by
  have := List.length_filter_le (fun h => decide (0 < (lats S h).length)) (List.range i)
  rw [List.length_range] at this; exact this
theorem all_l1 (hD : Gd S 0 at_ par) (d : Nat) : ∀ i, i ≤ S.length → S.length - i = d →
    Ev (fun k => loop_All.l1 k (bks S) (dtl S 0) ((hds S i).map (lp1 S)) (S.length : Int) (i : Int) (up2 S) (up2 (pr S))) (lps S) := by
  have hG := hD.gr
  have hle := hG.le
  induction d with
  | zero =>
    intro i hi hd
    obtain rfl : i = S.length := by omega
    refine Ev.succ ?_; simp only [loop_All.l1]
    exact Ev.ifn (by omega) Ev.pure
  | succ d ih =>
    intro i hi hd
    have hn := ih (i + 1) (by omega) (by omega)
    have hl := hds_len (S := S) (i := i)
    have e : hds S (i + 1) = hds S i ++ (if 0 < (lats S i).length then [i] else []) := by
      unfold hds
      rw [List.range_succ, List.filter_append]
      by_cases e : 0 < (lats S i).length
      · rw [if_pos e, List.filter_cons_of_pos (by simpa using e)]; rfl
      · rw [if_neg e, List.filter_cons_of_neg (by simpa using e)]; rfl
    rw [e] at hn
    refine Ev.succ ?_; simp only [loop_All.l1]
    rw [from_bks hG, up_length, wrap_nat (by omega)]
    refine Ev.ifp (by omega) (Ev.ifp (by omega) ?_)
    by_cases e2 : 0 < (lats S i).length
    · rw [if_pos e2, List.map_append] at hn
      exact Ev.ifp (by omega) (Ev.bind (body_ok hD (by omega)) (Ev.ifp (by rw [List.length_map]; omega) hn))
    · rw [if_neg e2, List.append_nil] at hn
      exact Ev.ifn (by omega) hn
theorem bks_okb (hG : Gr S) : (bks S).all okb = true := by
  have hle := hG.le
  refine List.all_eq_true.mpr (fun x hx => ?_)
  obtain ⟨a, b, h1, rfl, h2⟩ := bkt_mem _ hx
  have h3 := (hG.row a h1).2 b h2.1
  simp only [okb, decide_eq_true_eq]
  omega
theorem all_ok (hG : Gr S) : Ev (fun k => loop_All.f k (up2 S) (up2 (pr S))) (lps S) := by
  have hle := hG.le
  obtain ⟨at_, par, hD⟩ := gd_ex hG hG.pos
  have hl := bkt_len hG S.length (Nat.le_refl _)
  unfold loop_All.f
  refine Ev.bind (tree_ok0 hG) (Ev.bind (backs_ok hG) (Ev.ifp ⟨bks_okb hG, ?_⟩ ?_))
  · show (bkt S S.length).length ≤ 4096; omega
  · rw [up2_length]
    exact all_l1 hD S.length 0 (Nat.zero_le _) rfl
end
theorem all_no_l1 (s p : List (List Int)) (hb : s.length ≤ big) (d : Nat) : ∀ i, i ≤ s.length → s.length - i = d → Ev (fun k => loop_All.l1 k [] [] [] (s.length : Int) (i : Int) s p) [] := by
  have hbb : big = 9223372036854775807 := rfl
  induction d with
  | zero =>
    intro i hi hd
    refine Ev.succ ?_; simp only [loop_All.l1]
    exact Ev.ifn (by omega) Ev.pure
  | succ d ih =>
    intro i hi hd
    refine Ev.succ ?_; simp only [loop_All.l1]
    rw [wrap_nat (by omega)]
    exact Ev.ifp (by omega) (Ev.ifp (by omega) (Ev.ifn (by simp [fromOf]) (ih (i + 1) (by omega) (by omega))))
theorem all_no {s p : List (List Int)} (hb : s.length ≤ big) (hr : ∀ l ∈ s, l.length ≤ big) (hm : Ev (fun k => graph_May.f k s p) false) : Ev (fun k => loop_All.f k s p) [] := by
  unfold loop_All.f
  exact Ev.bind (tree_no (order_no 0 hm)) (Ev.bind (backs_no hb hr hm) (Ev.ifp ⟨rfl, by simp⟩ (all_no_l1 s p hb s.length 0 (Nat.zero_le _) rfl)))

/-! #### how deep a block lies -/
theorem index_l0i (x : Int) (l : List Int) (hb : l.length ≤ big) (d : Nat) : ∀ i, i ≤ l.length → l.length - i = d → (∀ j, j < i → l.getD j 0 ≠ x) →
    ∃ r : Int, Ev (fun k => slices_Index_int_int.l0 k l x (l.length : Int) (i : Int)) r ∧ ((r = -1 ∧ x ∉ l) ∨ ∃ j : Nat, r = (j : Int) ∧ j < l.length ∧ l.getD j 0 = x ∧ ∀ q, q < j → l.getD q 0 ≠ x) := by
  have hbb : big = 9223372036854775807 := rfl
  induction d with
  | zero =>
    intro i hi hd hn
    refine ⟨-1, Ev.succ ?_, .inl ⟨rfl, fun hm => ?_⟩⟩
    · simp only [slices_Index_int_int.l0]
      exact Ev.ifn (by omega) Ev.pure
    · obtain ⟨j, hj, e⟩ := List.getElem_of_mem hm
      refine hn j (by omega) ?_
      rw [List.getD_eq_getElem?_getD, List.getElem?_eq_getElem hj]; exact e
  | succ d ih =>
    intro i hi hd hn
    have hrd : rd l (i : Int) = l.getD i 0 := by simp [rd]
    by_cases e : l.getD i 0 = x
    · refine ⟨(i : Int), Ev.succ ?_, .inr ⟨i, rfl, by omega, e, hn⟩⟩
      simp only [slices_Index_int_int.l0]
      rw [hrd]
      exact Ev.ifp (by omega) (Ev.ifp (by omega) (Ev.ifp (by omega) (Ev.ifp e.symm Ev.pure)))
    · obtain ⟨r, h1, h2⟩ := ih (i + 1) (by omega) (by omega) (fun j hj => by
        by_cases e2 : j = i
        · rw [e2]; exact e
        · exact hn j (by omega))
      refine ⟨r, Ev.succ ?_, h2⟩
      simp only [slices_Index_int_int.l0]
      rw [hrd, wrap_nat (by omega)]
      exact Ev.ifp (by omega) (Ev.ifp (by omega) (Ev.ifp (by omega) (Ev.ifn (fun e2 => e e2.symm) h1)))
theorem index_i (x : Int) (l : List Int) (hb : l.length ≤ big) :
    ∃ r : Int, Ev (fun k => slices_Index_int_int.f k l x) r ∧ ((r = -1 ∧ x ∉ l) ∨ ∃ j : Nat, r = (j : Int) ∧ j < l.length ∧ l.getD j 0 = x ∧ ∀ q, q < j → l.getD q 0 ≠ x) := by
  unfold slices_Index_int_int.f
  exact index_l0i x l hb l.length 0 (Nat.zero_le _) rfl (fun j hj => by omega)
theorem contains_i (l : List Int) (hb : l.length ≤ big) (x : Int) : Ev (fun k => slices_Contains_int_int.f k l x) (decide (x ∈ l)) := by
  obtain ⟨r, h1, h2⟩ := index_i x l hb
  unfold slices_Contains_int_int.f
  refine Ev.bind h1 (Ev.pure.of_eq ?_)
  rcases h2 with ⟨e, h3⟩ | ⟨j, e, h3, h4, _⟩
  · rw [e, decide_eq_false h3]; rfl
  · have hm : x ∈ l := by rw [← h4]; exact getD_mem h3
    rw [e, decide_eq_true hm]; exact decide_eq_true (by omega)
/-- How many of the loops have a block. -/
def lpdep (ls : List S43) (x : Int) : Nat := (ls.filter fun l => decide (x ∈ l.f1)).length
theorem ldepth_l0 (x : Int) (ls : List S43) (hb : ls.length ≤ 1000) (hr : ∀ l ∈ ls, l.f1.length ≤ big) (d : Nat) : ∀ i, i ≤ ls.length → ls.length - i = d →
    Ev (fun k => loop_Depth.l0 k x (lpdep (ls.take i) x : Int) ls (ls.length : Int) (i : Int)) (lpdep ls x : Int) := by
  induction d with
  | zero =>
    intro i hi hd
    obtain rfl : i = ls.length := by omega
    rw [List.take_length]
    refine Ev.succ ?_; simp only [loop_Depth.l0]
    exact Ev.ifn (by omega) Ev.pure
  | succ d ih =>
    intro i hi hd
    have hil : i < ls.length := by omega
    have hrd : rd_T43 ls (i : Int) = ls[i] := by simp [rd_T43, hil]
    have hn := ih (i + 1) (by omega) (by omega)
    have hle : lpdep (ls.take i) x ≤ i := by
      have h1 := List.length_filter_le (fun l : S43 => decide (x ∈ l.f1)) (ls.take i)
      have h2 := List.length_take_le i ls
      unfold lpdep; omega
    have e : lpdep (ls.take (i + 1)) x = lpdep (ls.take i) x + if x ∈ ls[i].f1 then 1 else 0 := by
      unfold lpdep
      rw [List.take_succ_eq_append_getElem hil, List.filter_append, List.length_append]
      by_cases h : x ∈ ls[i].f1
      · rw [List.filter_cons_of_pos (by simpa using h), if_pos h]; rfl
      · rw [List.filter_cons_of_neg (by simpa using h), if_neg h]; rfl
    rw [e] at hn
    refine Ev.succ ?_; simp only [loop_Depth.l0]
    rw [hrd, wrap_nat (by omega), wrap_nat (by omega)]
    refine Ev.ifp (by omega) (Ev.ifp (by omega) (Ev.ifp (by omega) (Ev.bind (contains_i _ (hr _ (List.getElem_mem hil)) x) ?_)))
    by_cases h : x ∈ ls[i].f1
    · rw [if_pos h] at hn; exact Ev.ifp (decide_eq_true h) hn
    · rw [if_neg h] at hn; exact Ev.ifn (by rw [decide_eq_false h]; decide) hn
theorem lps_len {S : List (List Nat)} : (lps S).length ≤ S.length := by unfold lps; rw [List.length_map]; exact hds_len
theorem lps_mem {S : List (List Nat)} {l : S43} (h : l ∈ lps S) : ∃ h : Nat, h < S.length ∧ 0 < (lats S h).length ∧ l = lp1 S h := by
  unfold lps at h
  obtain ⟨q, hq, rfl⟩ := List.mem_map.mp h
  obtain ⟨h1, h2⟩ := List.mem_filter.mp hq
  exact ⟨q, List.mem_range.mp h1, by simpa using h2, rfl⟩
theorem lp1_len {S : List (List Nat)} (h : Nat) : (lp1 S h).f1.length ≤ S.length := by
  show (up ((List.range S.length).filter (lpb S h))).length ≤ S.length
  have := List.length_filter_le (lpb S h) (List.range S.length)
  rw [List.length_range] at this; rw [up_length]; exact this
theorem ldepth_ok {S : List (List Nat)} (hG : Gr S) (x : Int) : Ev (fun k => loop_Depth.f k (up2 S) (up2 (pr S)) x) (lpdep (lps S) x : Int) := by
  have hle := hG.le
  have hl := lps_len (S := S)
  unfold loop_Depth.f
  refine Ev.bind (all_ok hG) ?_
  have hbb : big = 9223372036854775807 := rfl
  exact ldepth_l0 x (lps S) (by omega) (fun l h => by obtain ⟨q, _, _, rfl⟩ := lps_mem h; have := lp1_len (S := S) q; omega) _ 0 (Nat.zero_le _) rfl
theorem ldepth_no {s p : List (List Int)} (hb : s.length ≤ big) (hr : ∀ l ∈ s, l.length ≤ big) (hm : Ev (fun k => graph_May.f k s p) false) (x : Int) : Ev (fun k => loop_Depth.f k s p x) 0 := by
  unfold loop_Depth.f
  exact Ev.bind (all_no hb hr hm) (ldepth_l0 x [] (by simp) (by simp) 0 0 (Nat.zero_le _) rfl)

theorem getD_up (l : List Nat) (j : Nat) : (up l).getD j 0 = ((l.getD j 0 : Nat) : Int) := by
  have := rd_up l j
  simpa [rd] using this
section
variable {S : List (List Nat)} {at_ par : Nat → Nat}
theorem index_at (hG : Gr S) (ha : Places (dfs S 0) at_) {y : Nat} (hy : y ∈ dfs S 0) : Ev (fun k => slices_Index_int_int.f k (up (dfs S 0)) (y : Int)) (at_ y : Int) := by
  have hbb : big = 9223372036854775807 := rfl
  have hle := hG.le
  have hl := dfs_len hG (r := 0) hG.pos
  obtain ⟨r, h1, h2⟩ := index_i (y : Int) (up (dfs S 0)) (by rw [up_length]; omega)
  refine h1.of_eq ?_
  rcases h2 with ⟨_, h3⟩ | ⟨j, e, h3, h4, _⟩
  · exact absurd (List.mem_map.mpr ⟨y, hy, rfl⟩) h3
  · rw [up_length] at h3
    rw [getD_up] at h4
    rw [e, ← ha j h3, show (dfs S 0).getD j 0 = y by omega]
/-- From a place of the order on each block stands ahead of those at which it goes on. -/
def Fq (S : List (List Nat)) (at_ : Nat → Nat) (i : Nat) : Prop := ∀ q, i ≤ q → q < (dfs S 0).length → ∀ y ∈ S.getD ((dfs S 0).getD q 0) [], q < at_ y
open Classical in
theorem for_l1 (hG : Gr S) (ha : Places (dfs S 0) at_) {i : Nat} (hi : i < (dfs S 0).length)
    (H : Ev (fun k => loop_forward.l0 k (up (dfs S 0)) (up (dfs S 0)) ((dfs S 0).length : Int) ((i + 1 : Nat) : Int) (up2 S) (up2 (pr S))) (decide (Fq S at_ (i + 1)))) (d : Nat) :
    ∀ m, m ≤ (S.getD ((dfs S 0).getD i 0) []).length → (S.getD ((dfs S 0).getD i 0) []).length - m = d →
    Ev (fun k => loop_forward.l1 k (up (dfs S 0)) (i : Int) (up (dfs S 0)) ((dfs S 0).length : Int) (i : Int) (up (S.getD ((dfs S 0).getD i 0) [])) ((S.getD ((dfs S 0).getD i 0) []).length : Int) (m : Int) (up2 S) (up2 (pr S)))
      (decide ((∀ y ∈ (S.getD ((dfs S 0).getD i 0) []).drop m, i < at_ y) ∧ Fq S at_ (i + 1))) := by
  have hle := hG.le
  have hl := dfs_len hG (r := 0) hG.pos
  have hx := dfs_lt hG (r := 0) hG.pos _ (getD_mem (d := 0) hi)
  have hxr := (dfs_mem hG hG.pos _).mp (getD_mem (d := 0) hi)
  generalize hxe : (dfs S 0).getD i 0 = x at hx hxr
  have hrl := gr_len hG hx
  induction d with
  | zero =>
    intro m hm hd
    obtain rfl : m = (S.getD x []).length := by omega
    refine Ev.succ ?_; simp only [loop_forward.l1]
    rw [wrap_nat (i := i) (by omega)]
    refine Ev.ifn (by omega) (H.of_eq (decide_eq_decide.mpr ⟨fun h => ⟨fun y hy => ?_, h⟩, fun h => h.2⟩))
    rw [List.drop_length] at hy; cases hy
  | succ d ih =>
    intro m hm hd
    have hml : m < (S.getD x []).length := by omega
    have hn := ih (m + 1) (by omega) (by omega)
    have hy := getD_mem (d := 0) hml
    have hyd : (S.getD x []).getD m 0 ∈ dfs S 0 := (dfs_mem hG hG.pos _).mpr (.step hxr hy (by omega))
    refine Ev.succ ?_; simp only [loop_forward.l1]
    rw [rd_up, wrap_nat (i := m) (by omega), up_length, drop_getD _ m 0 hml]
    refine Ev.ifp (by omega) (Ev.ifp (by omega) (Ev.ifp (by omega) (Ev.bind (index_at hG ha hyd) ?_)))
    by_cases e : at_ ((S.getD x []).getD m 0) ≤ i
    · refine Ev.ifp (by omega) (Ev.pure.of_eq (decide_eq_false (fun h => ?_)).symm)
      have := h.1 _ (List.mem_cons_self ..); omega
    · refine Ev.ifn (by omega) (hn.of_eq (decide_eq_decide.mpr ⟨fun h => ⟨fun y hy => ?_, h.2⟩, fun h => ⟨fun y hy => h.1 y (List.mem_cons_of_mem _ hy), h.2⟩⟩))
      rcases List.mem_cons.mp hy with e2 | e2
      · rw [e2]; omega
      · exact h.1 y e2
open Classical in
theorem for_l0 (hG : Gr S) (ha : Places (dfs S 0) at_) (d : Nat) : ∀ i, i ≤ (dfs S 0).length → (dfs S 0).length - i = d →
    Ev (fun k => loop_forward.l0 k (up (dfs S 0)) (up (dfs S 0)) ((dfs S 0).length : Int) (i : Int) (up2 S) (up2 (pr S))) (decide (Fq S at_ i)) := by
  have hle := hG.le
  have hl := dfs_len hG (r := 0) hG.pos
  induction d with
  | zero =>
    intro i hi hd
    obtain rfl : i = (dfs S 0).length := by omega
    obtain ⟨t, ht⟩ := dfs_head hG 0
    refine Ev.succ ?_; simp only [loop_forward.l0]
    refine Ev.ifn (by omega) (Ev.pure.of_eq ?_)
    rw [up_length, decide_eq_true (by rw [ht]; simp), decide_eq_true]
    intro q h1 h2; omega
  | succ d ih =>
    intro i hi hd
    have hil : i < (dfs S 0).length := by omega
    have hx := dfs_lt hG (r := 0) hG.pos _ (getD_mem (d := 0) hil)
    have h := for_l1 hG ha hil (ih (i + 1) (by omega) (by omega)) _ 0 (Nat.zero_le _) rfl
    rw [List.drop_zero] at h
    refine Ev.succ ?_; simp only [loop_forward.l0]
    rw [rd_up, rdL_up, up_length, up_length]
    refine Ev.ifp (by omega) (Ev.ifp (by omega) (Ev.ifp (by omega) (Ev.ifp (by omega) (Ev.ifp (by rw [up2_length]; omega) (h.of_eq (decide_eq_decide.mpr ?_))))))
    constructor
    · rintro ⟨h1, h2⟩ q hq1 hq2 y hy
      by_cases e : q = i
      · subst e; exact h1 y hy
      · exact h2 q (by omega) hq2 y hy
    · intro h1
      exact ⟨fun y hy => h1 i (Nat.le_refl _) hil y hy, fun q hq1 hq2 y hy => h1 q (by omega) hq2 y hy⟩
end
open Classical in
noncomputable def acb (S : List (List Nat)) : Bool := decide (Ac S 0)
theorem acb_true {S : List (List Nat)} : acb S = true ↔ Ac S 0 := by simp [acb]
theorem acb_false {S : List (List Nat)} : acb S = false ↔ ¬ Ac S 0 := by simp [acb]
theorem for_ok {S : List (List Nat)} (hG : Gr S) : Ev (fun k => loop_forward.f k (up2 S) (up2 (pr S))) (acb S) := by
  obtain ⟨at_, ha⟩ := places_ex hG hG.pos
  have ho := order_ok hG (r := 0) hG.pos
  unfold loop_forward.f
  refine Ev.bind ho ?_
  rw [up_length]
  refine (for_l0 hG ha (dfs S 0).length 0 (Nat.zero_le _) rfl).of_eq (decide_eq_decide.mpr ?_)
  rw [ac_fw hG hG.pos ha]
  constructor
  · intro h x hx y hy
    obtain ⟨j, hj, e⟩ := mem_at ((dfs_mem hG hG.pos x).mpr hx)
    have := h j (Nat.zero_le _) hj y (by rw [e]; exact hy)
    rw [← e, ha j hj]; exact this
  · intro h q _ hq y hy
    have := h _ ((dfs_mem hG hG.pos _).mp (getD_mem (d := 0) hq)) y hy
    rw [ha q hq] at this; exact this
theorem for_no {s p : List (List Int)} (hm : Ev (fun k => graph_May.f k s p) false) : Ev (fun k => loop_forward.f k s p) false := by
  unfold loop_forward.f
  refine Ev.bind (order_no 0 hm) (Ev.succ ?_)
  simp only [loop_forward.l0]
  exact Ev.ifn (by simp) Ev.pure
theorem forward_ok {S : List (List Nat)} (hG : Gr S) : Ev (fun k => loop_Forward.f k (up2 S) (up2 (pr S))) (acb S) := by
  unfold loop_Forward.f; exact Ev.bind (for_ok hG) Ev.pure
theorem forward_no {s p : List (List Int)} (hm : Ev (fun k => graph_May.f k s p) false) : Ev (fun k => loop_Forward.f k s p) false := by
  unfold loop_Forward.f; exact Ev.bind (for_no hm) Ev.pure

/-! #### without the ways back -/
noncomputable def nb (S : List (List Nat)) : List (List Nat) := (List.range S.length).map fun a => (S.getD a []).filter fun b => !dmb S b a
@[simp] theorem nb_length (S : List (List Nat)) : (nb S).length = S.length := by simp [nb]
theorem nb_get {S : List (List Nat)} {a : Nat} (h : a < S.length) : (nb S).getD a [] = (S.getD a []).filter fun b => !dmb S b a := getD_map_range _ _ _ _ h
theorem nb_mem {S : List (List Nat)} {a b : Nat} : b ∈ (nb S).getD a [] ↔ b ∈ S.getD a [] ∧ ¬ Dm S 0 b a := by
  constructor
  · intro h
    have ha := getD_lt h
    rw [nb_length] at ha
    rw [nb_get ha] at h
    obtain ⟨h1, h2⟩ := List.mem_filter.mp h
    exact ⟨h1, fun hd => by rw [dmb_true.mpr hd] at h2; cases h2⟩
  · rintro ⟨h1, h2⟩
    rw [nb_get (getD_lt h1)]
    refine List.mem_filter.mpr ⟨h1, ?_⟩
    cases e : dmb S b a with
    | true => exact absurd (dmb_true.mp e) h2
    | false => rfl
theorem gr_nb {S : List (List Nat)} (hG : Gr S) : Gr (nb S) := by
  refine ⟨by rw [nb_length]; exact hG.pos, by rw [nb_length]; exact hG.le, fun i hi => ?_⟩
  rw [nb_length] at hi ⊢
  rw [nb_get hi]
  exact ⟨(hG.row i hi).1.filter _, fun y hy => (hG.row i hi).2 y (List.mem_filter.mp hy).1⟩
theorem index_2 {ls : List S48} (hb : ls.length ≤ big) (x y : Int) (d : Nat) : ∀ i, i ≤ ls.length → ls.length - i = d → (∀ j, j < i → ls[j]? ≠ some ⟨x, y⟩) →
    ∃ r : Int, Ev (fun k => slices_Index_2_int_2_int.l0 k ls (ls.length : Int) (i : Int) x y) r ∧ ((r = -1 ∧ (⟨x, y⟩ : S48) ∉ ls) ∨ (0 ≤ r ∧ (⟨x, y⟩ : S48) ∈ ls)) := by
  have hbb : big = 9223372036854775807 := rfl
  induction d with
  | zero =>
    intro i hi hd hn
    refine ⟨-1, Ev.succ ?_, .inl ⟨rfl, fun hm => ?_⟩⟩
    · simp only [slices_Index_2_int_2_int.l0]
      exact Ev.ifn (by omega) Ev.pure
    · obtain ⟨j, hj, e⟩ := List.getElem_of_mem hm
      exact hn j (by omega) (by rw [List.getElem?_eq_getElem hj, e])
  | succ d ih =>
    intro i hi hd hn
    have hil : i < ls.length := by omega
    have hrd : rd_T48 ls (i : Int) = ls[i] := by simp [rd_T48, hil]
    by_cases e : ls[i] = ⟨x, y⟩
    · refine ⟨(i : Int), Ev.succ ?_, .inr ⟨by omega, by rw [← e]; exact List.getElem_mem hil⟩⟩
      simp only [slices_Index_2_int_2_int.l0]
      rw [hrd, e]
      exact Ev.ifp (by omega) (Ev.ifp (by omega) (Ev.ifp (by omega) (Ev.ifp (by simp) Ev.pure)))
    · obtain ⟨r, h1, h2⟩ := ih (i + 1) (by omega) (by omega) (fun j hj => by
        by_cases e2 : j = i
        · subst e2; rw [List.getElem?_eq_getElem hil]; exact fun h => e (by injection h)
        · exact hn j (by omega))
      refine ⟨r, Ev.succ ?_, h2⟩
      simp only [slices_Index_2_int_2_int.l0]
      rw [hrd, wrap_nat (by omega)]
      refine Ev.ifp (by omega) (Ev.ifp (by omega) (Ev.ifp (by omega) (Ev.ifn (fun hc => e ?_) h1)))
      rw [Bool.and_eq_true, beq_iff_eq, beq_iff_eq] at hc
      obtain ⟨c1, c2⟩ := hc
      cases hq : ls[i] with
      | mk q1 q2 => rw [hq] at c1 c2; rw [c1, c2]
theorem contains_2 {ls : List S48} (hb : ls.length ≤ big) (x y : Int) {v : Bool} (h : v = true ↔ (⟨x, y⟩ : S48) ∈ ls) : Ev (fun k => slices_Contains_2_int_2_int.f k ls x y) v := by
  obtain ⟨r, h1, h2⟩ := index_2 hb x y ls.length 0 (Nat.zero_le _) rfl (fun j hj => by omega)
  unfold slices_Contains_2_int_2_int.f
  refine Ev.bind (show Ev (fun k => slices_Index_2_int_2_int.f k ls x y) r from by unfold slices_Index_2_int_2_int.f; exact h1) (Ev.pure.of_eq ?_)
  rcases h2 with ⟨e, h3⟩ | ⟨e, h3⟩
  · cases v with
    | true => exact absurd (h.mp rfl) h3
    | false => rw [e]; rfl
  · rw [h.mpr h3]; exact decide_eq_true (by omega)
/-- The rows told so far. -/
noncomputable def nbI (S : List (List Nat)) (i m : Nat) : List (List Nat) := (List.range S.length).map fun j => if j < i then (S.getD j []).filter (fun b => !dmb S b j) else if j = i then ((S.getD j []).take m).filter (fun b => !dmb S b j) else []
theorem nbI_next {S : List (List Nat)} {i : Nat} : nbI S i (S.getD i []).length = nbI S (i + 1) 0 := by
  refine List.map_congr_left (fun j _ => ?_)
  by_cases e1 : j < i
  · rw [if_pos e1, if_pos (by omega)]
  · by_cases e2 : j = i
    · subst e2; rw [if_neg e1, if_pos rfl, if_pos (by omega), List.take_length]
    · rw [if_neg e1, if_neg e2, if_neg (by omega)]
      split
      · rw [List.take_zero]; rfl
      · rfl
theorem red_l1 {S : List (List Nat)} (hG : Gr S) {i : Nat} (hi : i < S.length) (v : Bool) (H : Ev (fun k => loop_Reducible.l0 k (bks S) (up2 (nbI S (i + 1) 0)) (up2 S) (S.length : Int) ((i + 1 : Nat) : Int)) v) (d : Nat) : ∀ m, m ≤ (S.getD i []).length → (S.getD i []).length - m = d →
    Ev (fun k => loop_Reducible.l1 k (bks S) (up2 (nbI S i m)) (i : Int) (up2 S) (S.length : Int) (i : Int) (up (S.getD i [])) ((S.getD i []).length : Int) (m : Int)) v := by
  have hle := hG.le
  have hrl := gr_len hG hi
  have hbb : big = 9223372036854775807 := rfl
  have hbl : (bks S).length ≤ 64 * S.length := bkt_len hG S.length (Nat.le_refl _)
  induction d with
  | zero =>
    intro m hm hd
    obtain rfl : m = (S.getD i []).length := by omega
    refine Ev.succ ?_; simp only [loop_Reducible.l1]
    rw [wrap_nat (i := i) (by omega), nbI_next]
    exact Ev.ifn (by omega) H
  | succ d ih =>
    intro m hm hd
    have hml : m < (S.getD i []).length := by omega
    have hn := ih (m + 1) (by omega) (by omega)
    have hy := getD_mem (d := 0) hml
    have hc : dmb S ((S.getD i []).getD m 0) i = true ↔ (⟨(i : Int), (((S.getD i []).getD m 0 : Nat) : Int)⟩ : S48) ∈ bks S := by
      rw [bks_mem, dmb_true]; exact ⟨fun h => ⟨hy, h⟩, fun h => h.2⟩
    have hrow : (nbI S i m).getD i [] = ((S.getD i []).take m).filter (fun b => !dmb S b i) := by
      unfold nbI
      rw [getD_map_range _ _ _ _ hi, if_neg (by omega), if_pos rfl]
    have hrl2 : (((S.getD i []).take m).filter (fun b => !dmb S b i)).length ≤ 64 := by
      have h1 := List.length_filter_le (fun b => !dmb S b i) ((S.getD i []).take m)
      have h2 : ((S.getD i []).take m).length ≤ (S.getD i []).length := by rw [List.length_take]; omega
      omega
    have hset : ∀ l : List Nat, (up2 (nbI S i m)).set i (up l) = up2 ((List.range S.length).map fun j => if j = i then l else if j < i then (S.getD j []).filter (fun b => !dmb S b j) else []) := by
      intro l
      unfold up2 nbI
      rw [← List.map_set]
      congr 1
      refine set_map_range _ _ _ _ _ (by rw [if_pos rfl]) (fun j hj => ?_)
      rw [if_neg hj, if_neg hj]
    have hnx : ∀ l : List Nat, l = ((S.getD i []).take (m + 1)).filter (fun b => !dmb S b i) → ((List.range S.length).map fun j => if j = i then l else if j < i then (S.getD j []).filter (fun b => !dmb S b j) else []) = nbI S i (m + 1) := by
      intro l hl
      refine List.map_congr_left (fun j _ => ?_)
      by_cases e1 : j = i
      · subst e1; rw [if_pos rfl, if_neg (by omega), if_pos rfl, hl]
      · rw [if_neg e1, if_neg e1]
    refine Ev.succ ?_; simp only [loop_Reducible.l1]
    rw [rd_up, rdL_up, hrow, wrap_nat (i := m) (by omega), up_length, up_length]
    refine Ev.ifp (by omega) (Ev.ifp (by omega) (Ev.ifp (by omega) (Ev.bind (contains_2 (by omega) _ _ hc) ?_)))
    cases e : dmb S ((S.getD i []).getD m 0) i with
    | true =>
      have e2 : nbI S i (m + 1) = nbI S i m := by
        refine List.map_congr_left (fun j _ => ?_)
        by_cases e1 : j < i
        · rw [if_pos e1, if_pos e1]
        · rw [if_neg e1, if_neg e1]
          by_cases e3 : j = i
          · subst e3
            rw [if_pos rfl, if_pos rfl, take_getD _ m 0 hml, List.filter_append, List.filter_cons_of_neg (p := fun b => !dmb S b j) (by show ¬ (!dmb S _ j) = true; rw [e]; decide), List.filter_nil, List.append_nil]
          · rw [if_neg e3, if_neg e3]
      rw [e2] at hn
      exact Ev.ifp rfl hn
    | false =>
      refine Ev.ifn (by decide) (Ev.ifp (by omega) (Ev.ifp (by rw [up2_length]; simp [nbI]; omega) (Ev.ifp (by omega) ?_)))
      rw [Int.toNat_natCast, ← up_snoc, hset, hnx]
      · exact hn
      · rw [take_getD _ m 0 hml, List.filter_append, List.filter_cons_of_pos (p := fun b => !dmb S b i) (by show (!dmb S _ i) = true; rw [e]; rfl), List.filter_nil]
theorem red_l0 {S : List (List Nat)} (hG : Gr S) (d : Nat) : ∀ i, i ≤ S.length → S.length - i = d → Ev (fun k => loop_Reducible.l0 k (bks S) (up2 (nbI S i 0)) (up2 S) (S.length : Int) (i : Int)) (acb (nb S)) := by
  have hle := hG.le
  induction d with
  | zero =>
    intro i hi hd
    obtain rfl : i = S.length := by omega
    have e : nbI S S.length 0 = nb S := by
      refine List.map_congr_left (fun j hj => ?_)
      rw [if_pos (List.mem_range.mp hj)]
    rw [e]
    refine Ev.succ ?_; simp only [loop_Reducible.l0]
    exact Ev.ifn (by omega) (Ev.bind (make_ok (gr_nb hG)) (Ev.bind (for_ok (gr_nb hG)) Ev.pure))
  | succ d ih =>
    intro i hi hd
    have h := red_l1 hG (i := i) (by omega) _ (ih (i + 1) (by omega) (by omega)) _ 0 (Nat.zero_le _) rfl
    refine Ev.succ ?_; simp only [loop_Reducible.l0]
    rw [rdL_up, up_length]
    exact Ev.ifp (by omega) (Ev.ifp (by omega) (Ev.ifp (by rw [up2_length]; omega) h))
theorem red_ok {S : List (List Nat)} (hG : Gr S) : Ev (fun k => loop_Reducible.f k (up2 S) (up2 (pr S))) (acb (nb S)) := by
  have hle := hG.le
  have h := red_l0 hG S.length 0 (Nat.zero_le _) rfl
  have e : up2 (nbI S 0 0) = List.replicate S.length [] := by
    apply List.ext_getElem
    · simp [nbI]
    · intro j h1 h2; simp [nbI, up2, up]
  rw [e] at h
  unfold loop_Reducible.f
  refine Ev.bind (may_ok hG _) (Ev.ifp (by simp) (Ev.bind (backs_ok hG) ?_))
  rw [up2_length, Int.toNat_natCast]
  exact Ev.ifp (by omega) (Ev.ifp (by omega) h)
theorem red_no {s p : List (List Int)} (hm : Ev (fun k => graph_May.f k s p) false) : Ev (fun k => loop_Reducible.f k s p) false := by
  unfold loop_Reducible.f
  exact Ev.bind hm (Ev.ifn (by decide) Ev.pure)
theorem may_nil : Ev (fun k => graph_May.f k [] []) false := may_bad (s := []) (by simp) (by simp) (by decide) []

section
variable {S : List (List Nat)}
theorem ac_bck (h : Ac S 0) {a b : Nat} : ¬ Bck S a b := by
  rintro ⟨h1, h2, h3⟩
  rcases h2.avoid (d := b) with h4 | h4
  · exact h3 h4
  · exact h a h2 b h1 h4
theorem ac_bks (h : Ac S 0) : bks S = [] := by
  cases e : bks S with
  | nil => rfl
  | cons x l =>
    have hm : x ∈ bks S := by rw [e]; exact List.mem_cons_self ..
    obtain ⟨a, b, _, _, h3⟩ := bkt_mem _ hm
    exact absurd h3 (ac_bck h)
theorem ac_lats (h : Ac S 0) (x : Nat) : lats S x = [] := by
  cases e : lats S x with
  | nil => rfl
  | cons y l => exact absurd (mem_lats.mp (by rw [e]; exact List.mem_cons_self ..)) (ac_bck h (a := y) (b := x))
theorem ac_lps (h : Ac S 0) : lps S = [] := by
  cases e : lps S with
  | nil => rfl
  | cons y l =>
    obtain ⟨q, _, h1, _⟩ := lps_mem (S := S) (l := y) (by rw [e]; exact List.mem_cons_self ..)
    rw [ac_lats h] at h1; cases h1
theorem nb_rch {w : Int} {a b : Nat} (h : Rch (nb S) w a b) : Rch S w a b := by
  induction h with
  | base h => exact .base h
  | step _ hy hw ih => exact .step ih (nb_mem.mp hy).1 hw
theorem ac_nb (h : Ac S 0) : Ac (nb S) 0 := fun a ha y hy hc => h a (nb_rch ha) y (nb_mem.mp hy).1 (nb_rch hc)
theorem none_end (hG : Gr S) (st : List Bool) {b : Bool} (h1 : b = true → ¬ Ac S 0) (h2 : b = false → Ac S 0) : Ev (fun k => locksteplaw10_LoopNone.l0 k (up2 S) b st (S.length : Int) (up2 S) (up2 (pr S))) true := by
  refine Ev.succ ?_; simp only [locksteplaw10_LoopNone.l0]
  refine Ev.ifn (by rw [up2_length]; omega) (Ev.bind (forward_ok hG) ?_)
  cases b with
  | true =>
    rw [acb_false.mpr (h1 rfl)]
    exact Ev.ifn (by decide) (Ev.ifp rfl Ev.pure)
  | false =>
    have ha := h2 rfl
    rw [acb_true.mpr ha]
    have hd := ldepth_ok hG 0
    have hl := all_ok hG
    have hb := backs_ok hG
    have hr := red_ok hG
    rw [ac_lps ha] at hd hl
    rw [ac_bks ha] at hb
    rw [acb_true.mpr (ac_nb ha)] at hr
    exact Ev.ifn (by decide) (Ev.ifn (by decide) (Ev.bind hl (Ev.ifp (by rfl) (Ev.bind hb (Ev.ifp (by rfl) (Ev.bind hr (Ev.ifp rfl (Ev.bind hd Ev.pure))))))))
theorem none_l1 (hG : Gr S) {i : Nat} (hi : i < S.length) (d : Nat) : ∀ (m : Nat) (b : Bool), m ≤ (S.getD i []).length → (S.getD i []).length - m = d →
    (∀ b', (b' = true → b = true ∨ ∃ y, y ∈ S.getD i [] ∧ Rch S (-1) 0 i ∧ Rch S (-1) y i) → (b' = false → b = false ∧ (Rch S (-1) 0 i → ∀ y ∈ (S.getD i []).drop m, ¬ Rch S (-1) y i)) → Ev (fun k => locksteplaw10_LoopNone.l0 k (up2 S) b' (rbn S.length (rchb S (-1) 0)) ((i + 1 : Nat) : Int) (up2 S) (up2 (pr S))) true) →
    Ev (fun k => locksteplaw10_LoopNone.l1 k (up2 S) b (rbn S.length (rchb S (-1) 0)) (i : Int) (m : Int) (up2 S) (up2 (pr S))) true := by
  have hle := hG.le
  have hrl := gr_len hG hi
  induction d with
  | zero =>
    intro m b hm hd hK
    have h := hK b (fun h => .inl h) (fun h => ⟨h, fun _ y hy => by rw [List.drop_of_length_le (by omega)] at hy; cases hy⟩)
    refine Ev.succ ?_; simp only [locksteplaw10_LoopNone.l1]
    rw [rdL_up, up_length, rd_rbn _ _ hi, wrap_nat (i := i) (by omega)]
    refine Ev.ifp (by omega) (Ev.ifp (by rw [rbn_length]; omega) ?_)
    by_cases hr : rchb S (-1) 0 i = true
    · exact Ev.ifp hr (Ev.ifp (by rw [up2_length]; omega) (Ev.ifn (by omega) h))
    · exact Ev.ifn hr h
  | succ d ih =>
    intro m b hm hd hK
    have hml : m < (S.getD i []).length := by omega
    have hy := (hG.row i hi).2 _ (getD_mem (d := 0) hml)
    have hmem : (S.getD i []).getD m 0 ∈ S.getD i [] := getD_mem hml
    rw [drop_getD _ m 0 hml] at hK
    refine Ev.succ ?_; simp only [locksteplaw10_LoopNone.l1]
    rw [rdL_up, up_length, rd_up, rd_rbn _ _ hi, wrap_nat (i := i) (by omega), wrap_nat (i := m) (by omega)]
    refine Ev.ifp (by omega) (Ev.ifp (by rw [rbn_length]; omega) ?_)
    by_cases hr : rchb S (-1) 0 i = true
    · refine Ev.ifp hr (Ev.ifp (by rw [up2_length]; omega) (Ev.ifp (by omega) ?_))
      have hR := rchb_true.mp hr
      cases b with
      | true =>
        refine Ev.ifp rfl (ih (m + 1) true (by omega) (by omega) (fun b' h1 h2 => hK b' (fun h => .inl rfl) (fun h => ?_)))
        cases (h2 h).1
      | false =>
        refine Ev.ifn (by decide) (Ev.ifp (by omega) (Ev.bind (reach_ok hG _ (-1) _ hy) (Ev.ifp (by rw [rbn_length]; omega) ?_)))
        rw [rd_rbn _ _ hi]
        refine ih (m + 1) _ (by omega) (by omega) (fun b' h1 h2 => hK b' (fun h => ?_) (fun h => ⟨rfl, fun _ y hy => ?_⟩))
        · rcases h1 h with h3 | h3
          · exact .inr ⟨_, hmem, hR, rchb_true.mp h3⟩
          · exact .inr h3
        · have h3 := h2 h
          rcases List.mem_cons.mp hy with e | e
          · rw [e]; intro hc
            rw [rchb_true.mpr hc] at h3; cases h3.1
          · exact h3.2 hR y e
    · refine Ev.ifn hr (hK b (fun h => .inl h) (fun h => ⟨h, fun hc => absurd (rchb_true.mpr hc) hr⟩))
theorem none_l0 (hG : Gr S) (d : Nat) : ∀ (i : Nat) (b : Bool), i ≤ S.length → S.length - i = d → (b = true → ¬ Ac S 0) → (b = false → ∀ a, a < i → Rch S (-1) 0 a → ∀ y ∈ S.getD a [], ¬ Rch S (-1) y a) →
    Ev (fun k => locksteplaw10_LoopNone.l0 k (up2 S) b (rbn S.length (rchb S (-1) 0)) (i : Int) (up2 S) (up2 (pr S))) true := by
  induction d with
  | zero =>
    intro i b hi hd h1 h2
    obtain rfl : i = S.length := by omega
    exact none_end hG _ h1 (fun h a ha y hy => h2 h a (getD_lt hy) ha y hy)
  | succ d ih =>
    intro i b hi hd h1 h2
    have hil : i < S.length := by omega
    refine Ev.succ ?_; simp only [locksteplaw10_LoopNone.l0]
    refine Ev.ifp (by rw [up2_length]; omega) (none_l1 hG hil _ 0 b (Nat.zero_le _) rfl (fun b' h3 h4 => ih (i + 1) b' (by omega) (by omega) (fun h => ?_) (fun h a ha hr y hy => ?_)))
    · rcases h3 h with h5 | ⟨y, h5, h6, h7⟩
      · exact h1 h5
      · exact fun hc => hc i h6 y h5 h7
    · have h5 := h4 h
      by_cases e : a = i
      · subst e; exact h5.2 hr y (by rw [List.drop_zero]; exact hy)
      · exact h2 h5.1 a (by omega) hr y hy
end
theorem loopNone : locksteplaw10_LoopNone.Pure := by
  intro l0 hrow
  refine Ev.at ?_
  have hbb : big = 9223372036854775807 := rfl
  have hml : maxLen ≤ big := by decide
  have hb : l0.length ≤ big := Nat.le_trans hrow.1 hml
  unfold locksteplaw10_LoopNone.f
  refine Ev.bind awake_ev (Ev.ifp rfl ?_)
  have ht : Ev (fun k => locksteplaw10_LoopNone.j0 k l0 true) true := by
    refine Ev.succ ?_; simp only [locksteplaw10_LoopNone.j0]; exact Ev.ifp trivial Ev.pure
  by_cases h16 : (l0.length : Int) > 16
  · exact Ev.ifp h16 ht
  · refine Ev.ifn h16 ?_
    obtain ⟨b, h1, h2⟩ := small_ev l0 hb
    refine Ev.bind h1 ?_
    cases b with
    | false => exact ht
    | true =>
      have hr : ∀ l ∈ l0, l.length ≤ big := fun l hl => by have := (h2 rfl).2 l hl; omega
      refine Ev.succ ?_; simp only [locksteplaw10_LoopNone.j0]
      refine Ev.ifn (by decide) ?_
      cases hg : goodb l0 with
      | false => exact Ev.bind (make_bad hb hr hg) (Ev.ifn (by decide) (Ev.bind (forward_no may_nil) Ev.pure))
      | true =>
        obtain ⟨S, h, rfl⟩ := good_gr hg
        refine Ev.bind (make_ok h) (Ev.ifp rfl (Ev.bind (reach_ok h _ (-1) 0 h.pos) ?_))
        exact none_l0 h _ 0 false (Nat.zero_le _) rfl (fun h => by cases h) (fun _ a ha => by omega)
end Go.Proofs.Ytoekeknfeinphaa.GP
namespace Go.Proofs.Ytoekeknfeinphaa.Pure
theorem LoopNone : Go.Proofs.Ytoekeknfeinphaa.G.locksteplaw10_LoopNone.Pure := GP.loopNone
end Go.Proofs.Ytoekeknfeinphaa.Pure
namespace Go.Proofs.Ytoekeknfeinphaa.loopNone
open Go.Proofs.YtoekeknfeinphaaH Go.Proofs.Ytoekeknfeinphaa.G
open Go.ChangeShapes Go.WideShapes Go.ChangeAt Go.RowKit
open Go.ChangeMaps (open_string shut_string)
set_option linter.unusedVariables false
theorem own : ownKnob Try.prog.godebug = none := by kernel_rfl
theorem laidOut : laidOutB Try.prog = true := by kernel_rfl
def IsRow (k : IntKind) (w : World) (a : Option Addr) (len cap : Nat) (zs : List Int) : Prop :=
  (a = none ∧ len = 0 ∧ cap = 0 ∧ zs = []) ∨
  ∃ x, a = some x ∧ len ≤ cap ∧ cap ≤ maxLen ∧ zs.length = cap ∧ (∀ i, i < zs.length → w.cell? (x.add i) = some (.int k (zs.getD i 0))) ∧ ∀ n ∈ zs, (Lit.int k n).wf = true
set_option maxRecDepth 100000 in
theorem lifted (os : Os) (started : os.Started) (H : Type) (enc : TypeId × Value → H) :
    ReturnsInHanded {} Try.checked os 6 .any (Rows.loopNoneSpec.pre6 enc Try.prog Try.f6 Rows.loopNoneRow.domain false) (Rows.loopNoneSpec.post enc Try.prog Try.f6 false true false false) := by
  refine returnsInHanded_of_change_sized (C := Try.checked) own started (by kernel_rfl) Try.func6
    (ChangeSpec.witness6 (enc := enc) (C := Try.checked) false ⟨#[], #[.slice none 0 0], []⟩ 8 (by kernel_rfl) (by kernel_rfl) (by kernel_rfl) (by kernel_rfl)) ?_
  intro W base args ds gs before hval0 hW hcnd hsz0 _
  have hsz : (DataW.weightsEach Try.prog (Try.f6.params.toList ++ Rows.loopNoneSpec.plain.varTypes Try.prog) (ds ++ gs)).all (· ≤ reachBytes) = true := hsz0
  have hval : ∀ (j : Nat) t v, Try.f6.params[j]? = some t → args[j]? = some v → Value.okWide Try.prog W .any base t v := hval0
  have hW' := hW
  obtain ⟨p, q, hA0, hV, rfl, hfz, hnd⟩ := hW
  have hA : DataW.TrodAll enc Try.prog W 0 (fun _ => true) true Try.f6.params.toList args.toList ds p := hA0
  rw [Try.params6] at hA hval hsz
  obtain ⟨v0, vs0, d0, ds0, p0, q0, hargs, rfl, rfl, h0, r0⟩ := trodAll_cons hA
  obtain ⟨rfl, rfl, rfl⟩ := trodAll_nil r0
  obtain rfl : args = #[v0] := by cases args; simp_all
  obtain ⟨rfl, rfl⟩ := trodVars_none hV
  obtain ⟨a0, len0, cap0, rfl⟩ := okWide_slice Try.underlying22 (hval 0 22 v0 rfl rfl)
  have k0 := h0
  have lt0 : ∀ x ∈ p0, x.block < W.heap.size := by obtain ⟨m, hm⟩ := k0; exact DataW.trod_lt m _ _ _ hm
  obtain ⟨l0, rfl, w0, y0, m0⟩ := C_of_rows Try.underlying22 Try.underlying31 Try.underlying3 (by kernel_rfl) (by kernel_rfl) h0
  clear hA0 hval0 hsz0 hsz
  refine (G.locksteplaw10_LoopNone.walk Pure.LoopNone a0 cap0 l0 W w0 y0 m0).mono fun e W' ⟨he, bel⟩ => ?_
  subst he
  exact ⟨_, rfl, _, _, _, [], _, [], hW', trodAll_mk1 (shut_bool Try.underlying4 _), (trodAll_cons_mk (Below.trod laidOut (by kernel_rfl) (of_decide_eq_true (by kernel_rfl)) k0 bel lt0) trodAll_mk0), rfl, bel.frame _, fun h => by cases h⟩
theorem over : Rows.loopNoneRow.holds Try.pinned (OpenSpec.ofChange Rows.loopNoneSpec) :=
  OpenClaim.holds_of_wide 6 Try.f6 rfl rfl rfl rfl rfl rfl rfl ⟨rfl, rfl, rfl, rfl, rfl⟩ rfl rfl rfl rfl rfl (by kernel_rfl) Try.func6 (by kernel_rfl)
    (of_decide_eq_true (by kernel_rfl)) (by unfold Func.isWrapper; first | (rw [if_pos (by decide +kernel)]; kernel_rfl) | (rw [if_neg (by decide +kernel)]; exact ⟨rfl, rfl⟩))
    (fun os started H enc _ => lifted os started H enc)
theorem proved : Rows.LoopNoneSaid := over
#print axioms proved
end Go.Proofs.Ytoekeknfeinphaa.loopNone
namespace Go.Proofs.Ytoekeknfeinphaa
/-- The row, under a short name, for the claim. -/
theorem loopNone_holds : Rows.LoopNoneSaid := loopNone.proved
end Go.Proofs.Ytoekeknfeinphaa
