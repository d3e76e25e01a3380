/- Going through a graph, as a plain function, and what it comes to. No conditions beyond each theorem's own. -/
import Derived.Test.YtokfaaemhniodaaGMay
namespace Go.Proofs.Ytokfaaemhniodaa.GP

abbrev Sn := Nat → Bool
def upd (s : Sn) (x : Nat) : Sn := fun z => if z = x then true else s z
theorem upd_self (s : Sn) (x : Nat) : upd s x x = true := by simp [upd]
theorem upd_true {s : Sn} {x z : Nat} : upd s x z = true ↔ z = x ∨ s z = true := by unfold upd; split <;> simp_all
/-- How many of the first n are not seen. -/
def cnt (n : Nat) (s : Sn) : Nat := ((List.range n).filter (fun z => !s z)).length
theorem filter_le {α : Type} (l : List α) (p q : α → Bool) (h : ∀ x ∈ l, p x = true → q x = true) : (l.filter p).length ≤ (l.filter q).length := by
  induction l with
  | nil => simp
  | cons x l ih =>
    have h1 := ih (fun y hy => h y (List.mem_cons_of_mem _ hy))
    have h2 := h x (List.mem_cons_self ..)
    cases hp : p x with
    | false => rw [List.filter_cons_of_neg (by simp [hp])]; by_cases hq : q x = true
               · rw [List.filter_cons_of_pos hq, List.length_cons]; omega
               · rw [List.filter_cons_of_neg hq]; exact h1
    | true => rw [List.filter_cons_of_pos hp, List.filter_cons_of_pos (h2 hp), List.length_cons, List.length_cons]; omega
theorem filter_lt {α : Type} (l : List α) (p q : α → Bool) (h : ∀ x ∈ l, p x = true → q x = true) (y : α) (hy : y ∈ l) (h1 : p y = false) (h2 : q y = true) : (l.filter p).length < (l.filter q).length := by
  induction l with
  | nil => simp at hy
  | cons x l ih =>
    have hl := filter_le l p q (fun y hy => h y (List.mem_cons_of_mem _ hy))
    by_cases hx : p x = true
    · have hne : y ≠ x := by rintro rfl; rw [hx] at h1; cases h1
      have hyl : y ∈ l := by rcases List.mem_cons.mp hy with e | e; exact absurd e hne; exact e
      have := ih (fun y hy => h y (List.mem_cons_of_mem _ hy)) hyl
      rw [List.filter_cons_of_pos hx, List.filter_cons_of_pos (h x (List.mem_cons_self ..) hx), List.length_cons, List.length_cons]; omega
    · rw [List.filter_cons_of_neg hx]
      rcases List.mem_cons.mp hy with e | e
      · subst e; rw [List.filter_cons_of_pos h2, List.length_cons]; omega
      · have := ih (fun y hy => h y (List.mem_cons_of_mem _ hy)) e
        by_cases hq : q x = true
        · rw [List.filter_cons_of_pos hq, List.length_cons]; omega
        · rw [List.filter_cons_of_neg hq]; exact this
theorem cnt_le {n : Nat} {s t : Sn} (h : ∀ z, s z = true → t z = true) : cnt n t ≤ cnt n s :=
  filter_le _ _ _ (fun x _ hx => by cases hs : s x; rfl; rw [h x hs] at hx; cases hx)
theorem cnt_lt {n : Nat} {s t : Sn} (h : ∀ z, s z = true → t z = true) {y : Nat} (hy : y < n) (h1 : s y = false) (h2 : t y = true) : cnt n t < cnt n s :=
  filter_lt _ _ _ (fun x _ hx => by cases hs : s x; rfl; rw [h x hs] at hx; cases hx) y (List.mem_range.mpr hy) (by rw [h2]; rfl) (by rw [h1]; rfl)
theorem filter_upd (l : List Nat) (hn : l.Nodup) (s : Sn) (x : Nat) (hx : x ∈ l) (hs : s x = false) : (l.filter (fun z => !upd s x z)).length + 1 = (l.filter (fun z => !s z)).length := by
  induction l with
  | nil => simp at hx
  | cons y l ih =>
    obtain ⟨hy, hl⟩ := List.nodup_cons.mp hn
    by_cases e : y = x
    · subst e
      have e2 : l.filter (fun z => !upd s y z) = l.filter (fun z => !s z) := List.filter_congr (fun z hz => by unfold upd; rw [if_neg (by rintro rfl; exact hy hz)])
      rw [List.filter_cons_of_neg (by simp [upd]), List.filter_cons_of_pos (by simp [hs]), e2]; rfl
    · have hx' : x ∈ l := by rcases List.mem_cons.mp hx with e' | e'; exact absurd e'.symm e; exact e'
      have e3 : upd s x y = s y := by unfold upd; rw [if_neg e]
      have := ih hl hx'
      cases hsy : s y with
      | true => rw [List.filter_cons_of_neg (by simp [e3, hsy]), List.filter_cons_of_neg (by simp [hsy])]; exact this
      | false => rw [List.filter_cons_of_pos (by simp [e3, hsy]), List.filter_cons_of_pos (by simp [hsy]), List.length_cons, List.length_cons]; omega
theorem cnt_upd {n : Nat} {s : Sn} {x : Nat} (hx : x < n) (hs : s x = false) : cnt n (upd s x) + 1 = cnt n s :=
  filter_upd _ List.nodup_range s x (List.mem_range.mpr hx) hs
theorem cnt_pos {n : Nat} {s : Sn} {x : Nat} (hx : x < n) (hs : s x = false) : 0 < cnt n s := by have := cnt_upd hx hs; omega

/-- On from a block: what is seen, and what was left, the first one first. -/
def visit (S : List (List Nat)) : Nat → Nat → Sn × List Nat → Sn × List Nat
  | 0, _, st => st
  | f + 1, x, st =>
    let r := (S.getD x []).foldl (fun st y => if st.1 y = true then st else visit S f y st) (upd st.1 x, st.2)
    (r.1, r.2 ++ [x])
def steps (S : List (List Nat)) (f : Nat) (l : List Nat) (st : Sn × List Nat) : Sn × List Nat := l.foldl (fun st y => if st.1 y = true then st else visit S f y st) st
theorem visit_succ (S : List (List Nat)) (f x : Nat) (st : Sn × List Nat) : visit S (f + 1) x st = ((steps S f (S.getD x []) (upd st.1 x, st.2)).1, (steps S f (S.getD x []) (upd st.1 x, st.2)).2 ++ [x]) := rfl
theorem steps_cons (S : List (List Nat)) (f y : Nat) (l : List Nat) (st : Sn × List Nat) : steps S f (y :: l) st = steps S f l (if st.1 y = true then st else visit S f y st) := rfl

/-- What can be reached. -/
inductive Rch (S : List (List Nat)) (w : Int) (r : Nat) : Nat → Prop
  | base : (r : Int) ≠ w → Rch S w r r
  | step {a y : Nat} : Rch S w r a → y ∈ S.getD a [] → (y : Int) ≠ w → Rch S w r y
theorem Rch.lt {S : List (List Nat)} (h : Gr S) {w : Int} {r : Nat} (hr : r < S.length) {x : Nat} (hx : Rch S w r x) : x < S.length := by
  induction hx with
  | base _ => exact hr
  | @step a y _ hy _ ih => exact (h.row a ih).2 y hy
theorem Rch.trans {S : List (List Nat)} {w : Int} {r a b : Nat} (h1 : Rch S w r a) (h2 : Rch S w a b) : Rch S w r b := by
  induction h2 with
  | base _ => exact h1
  | step _ hy hw ih => exact .step ih hy hw

/-- What a way through comes to. -/
structure Vis (S : List (List Nat)) (n : Nat) (st r : Sn × List Nat) : Prop where
  new : ∃ l, r.2 = st.2 ++ l ∧ (∀ z, r.1 z = true ↔ st.1 z = true ∨ z ∈ l) ∧ l.Nodup ∧ (∀ z ∈ l, st.1 z = false ∧ z < n) ∧ l.length + cnt n r.1 = cnt n st.1
theorem Vis.mono {S : List (List Nat)} {n : Nat} {st r : Sn × List Nat} (h : Vis S n st r) {z : Nat} (hz : st.1 z = true) : r.1 z = true := by
  obtain ⟨l, _, h2, _⟩ := h.new; exact (h2 z).mpr (.inl hz)
theorem Vis.refl (S : List (List Nat)) (n : Nat) (st : Sn × List Nat) : Vis S n st st := ⟨⟨[], by simp, by simp, by simp, by simp, by simp⟩⟩
theorem Vis.trans {S : List (List Nat)} {n : Nat} {a b c : Sn × List Nat} (h1 : Vis S n a b) (h2 : Vis S n b c) : Vis S n a c := by
  obtain ⟨l1, e1, s1, n1, u1, c1⟩ := h1.new
  obtain ⟨l2, e2, s2, n2, u2, c2⟩ := h2.new
  refine ⟨⟨l1 ++ l2, by rw [e2, e1, List.append_assoc], fun z => ?_, ?_, fun z hz => ?_, by rw [List.length_append]; omega⟩⟩
  · rw [s2, s1, List.mem_append, or_assoc]
  · rw [List.nodup_append]
    refine ⟨n1, n2, fun x hx y hy e => ?_⟩
    subst e
    have := (u2 _ hy).1
    rw [(s1 x).mpr (.inr hx)] at this; cases this
  · rcases List.mem_append.mp hz with hz | hz
    · exact u1 z hz
    · refine ⟨?_, (u2 z hz).2⟩
      cases ha : a.1 z with
      | false => rfl
      | true => have := (u2 z hz).1; rw [(s1 z).mpr (.inl ha)] at this; cases this

mutual
theorem visit_vis {S : List (List Nat)} (h : Gr S) : ∀ (f x : Nat) (st : Sn × List Nat), x < S.length → st.1 x = false → cnt S.length st.1 ≤ f → Vis S S.length st (visit S f x st) ∧ (visit S f x st).1 x = true
  | 0, x, st, hx, hs, hc => by have := cnt_pos hx hs; omega
  | f + 1, x, st, hx, hs, hc => by
    have hu := cnt_upd hx hs
    have h1 := steps_vis h f (S.getD x []) (upd st.1 x, st.2) (h.row x hx).2 (by show cnt _ (upd st.1 x) ≤ f; omega)
    rw [visit_succ]
    obtain ⟨l, e, s, nd, u, c⟩ := h1.new
    have hxl : x ∉ l := fun hm => by have := (u x hm).1; simp [upd] at this
    refine ⟨⟨⟨l ++ [x], by (show (steps S f (S.getD x []) (upd st.1 x, st.2)).2 ++ [x] = _); rw [e, List.append_assoc], fun z => ?_, ?_, fun z hz => ?_, ?_⟩⟩, (s x).mpr (.inl (upd_self _ _))⟩
    · show _ = true ↔ _
      rw [s]
      show upd st.1 x z = true ∨ _ ↔ _
      rw [upd_true, List.mem_append, List.mem_singleton]
      constructor
      · rintro ((e | e) | e)
        · exact .inr (.inr e)
        · exact .inl e
        · exact .inr (.inl e)
      · rintro (e | e | e)
        · exact .inl (.inr e)
        · exact .inr e
        · exact .inl (.inl e)
    · rw [List.nodup_append]
      refine ⟨nd, by simp, fun a ha b hb e' => ?_⟩
      rw [List.mem_singleton] at hb; rw [e', hb] at ha; exact hxl ha
    · rcases List.mem_append.mp hz with hz | hz
      · refine ⟨?_, (u z hz).2⟩
        have h2 := (u z hz).1
        cases ha : st.1 z with
        | false => rfl
        | true => have : upd st.1 x z = true := upd_true.mpr (.inr ha)
                  have h3 : upd st.1 x z = false := h2
                  rw [this] at h3; cases h3
      · rw [List.mem_singleton] at hz; subst hz; exact ⟨hs, hx⟩
    · rw [List.length_append, List.length_singleton]
      have c' : l.length + cnt S.length (steps S f (S.getD x []) (upd st.1 x, st.2)).1 = cnt S.length (upd st.1 x) := c
      show _ + cnt S.length (steps S f (S.getD x []) (upd st.1 x, st.2)).1 = _
      omega
theorem steps_vis {S : List (List Nat)} (h : Gr S) : ∀ (f : Nat) (l : List Nat) (st : Sn × List Nat), (∀ y ∈ l, y < S.length) → cnt S.length st.1 ≤ f → Vis S S.length st (steps S f l st)
  | _, [], st, _, _ => Vis.refl _ _ _
  | f, y :: l, st, hl, hc => by
    rw [steps_cons]
    by_cases hy : st.1 y = true
    · rw [if_pos hy]; exact steps_vis h f l st (fun z hz => hl z (List.mem_cons_of_mem _ hz)) hc
    · rw [if_neg hy]
      have h1 := (visit_vis h f y st (hl y (List.mem_cons_self ..)) (by simpa using hy) hc).1
      have h2 := steps_vis h f l (visit S f y st) (fun z hz => hl z (List.mem_cons_of_mem _ hz)) (Nat.le_trans (cnt_le (fun z hz => h1.mono hz)) hc)
      exact h1.trans h2
end
theorem steps_seen {S : List (List Nat)} (h : Gr S) (f : Nat) : ∀ (l : List Nat) (st : Sn × List Nat), (∀ y ∈ l, y < S.length) → cnt S.length st.1 ≤ f → ∀ y ∈ l, (steps S f l st).1 y = true := by
  intro l
  induction l with
  | nil => intro st _ _ y hy; simp at hy
  | cons x l ih =>
    intro st hl hc y hy
    rw [steps_cons]
    have hl' : ∀ z ∈ l, z < S.length := fun z hz => hl z (List.mem_cons_of_mem _ hz)
    by_cases hx : st.1 x = true
    · rw [if_pos hx]
      rcases List.mem_cons.mp hy with e | e
      · subst e; exact (steps_vis h f l st hl' hc).mono hx
      · exact ih st hl' hc y e
    · rw [if_neg hx]
      obtain ⟨h1, h2⟩ := visit_vis h f x st (hl x (List.mem_cons_self ..)) (by simpa using hx) hc
      have hc' : cnt S.length (visit S f x st).1 ≤ f := Nat.le_trans (cnt_le (fun z hz => h1.mono hz)) hc
      rcases List.mem_cons.mp hy with e | e
      · subst e; exact (steps_vis h f l _ hl' hc').mono h2
      · exact ih _ hl' hc' y e

end Go.Proofs.Ytokfaaemhniodaa.GP
