/- Ways through graphs and what dominates what, with no program in it. No conditions beyond each theorem's own. -/
import Derived.Test.YtmbkpnhmeljcgaaGa
set_option linter.unusedVariables false
set_option linter.unusedSimpArgs false
namespace Go.PrS
open Go Go.Ev
abbrev Sn := Nat → Bool
def upd (s : Sn) (x : Nat) : Sn := fun z => if z = x then true else s z
theorem upd_self (s : Sn) (x : Nat) : upd s x x = true := by simp [upd]
theorem upd_true {s : Sn} {x z : Nat} : upd s x z = true ↔ z = x ∨ s z = true := by unfold upd; split <;> simp_all
/-- How many of the first n are not seen. -/
def cnt (n : Nat) (s : Sn) : Nat := ((List.range n).filter (fun z => !s z)).length
theorem filter_le {α : Type} (l : List α) (p q : α → Bool) (h : ∀ x ∈ l, p x = true → q x = true) : (l.filter p).length ≤ (l.filter q).length := by
  induction l with
  | nil => simp
  | cons x l ih =>
    have h1 := ih (fun y hy => h y (List.mem_cons_of_mem _ hy))
    have h2 := h x (List.mem_cons_self ..)
    cases hp : p x with
    | false => rw [List.filter_cons_of_neg (by simp [hp])]; by_cases hq : q x = true
               · rw [List.filter_cons_of_pos hq, List.length_cons]; omega
               · rw [List.filter_cons_of_neg hq]; exact h1
    | true => rw [List.filter_cons_of_pos hp, List.filter_cons_of_pos (h2 hp), List.length_cons, List.length_cons]; omega
theorem filter_lt {α : Type} (l : List α) (p q : α → Bool) (h : ∀ x ∈ l, p x = true → q x = true) (y : α) (hy : y ∈ l) (h1 : p y = false) (h2 : q y = true) : (l.filter p).length < (l.filter q).length := by
  induction l with
  | nil => simp at hy
  | cons x l ih =>
    have hl := filter_le l p q (fun y hy => h y (List.mem_cons_of_mem _ hy))
    by_cases hx : p x = true
    · have hne : y ≠ x := by rintro rfl; rw [hx] at h1; cases h1
      have hyl : y ∈ l := by rcases List.mem_cons.mp hy with e | e; exact absurd e hne; exact e
      have := ih (fun y hy => h y (List.mem_cons_of_mem _ hy)) hyl
      rw [List.filter_cons_of_pos hx, List.filter_cons_of_pos (h x (List.mem_cons_self ..) hx), List.length_cons, List.length_cons]; omega
    · rw [List.filter_cons_of_neg hx]
      rcases List.mem_cons.mp hy with e | e
      · subst e; rw [List.filter_cons_of_pos h2, List.length_cons]; omega
      · have := ih (fun y hy => h y (List.mem_cons_of_mem _ hy)) e
        by_cases hq : q x = true
        · rw [List.filter_cons_of_pos hq, List.length_cons]; omega
        · rw [List.filter_cons_of_neg hq]; exact this
theorem cnt_le {n : Nat} {s t : Sn} (h : ∀ z, s z = true → t z = true) : cnt n t ≤ cnt n s :=
  filter_le _ _ _ (fun x _ hx => by cases hs : s x; rfl; rw [h x hs] at hx; cases hx)
theorem cnt_lt {n : Nat} {s t : Sn} (h : ∀ z, s z = true → t z = true) {y : Nat} (hy : y < n) (h1 : s y = false) (h2 : t y = true) : cnt n t < cnt n s :=
  filter_lt _ _ _ (fun x _ hx => by cases hs : s x; rfl; rw [h x hs] at hx; cases hx) y (List.mem_range.mpr hy) (by rw [h2]; rfl) (by rw [h1]; rfl)
theorem filter_upd (l : List Nat) (hn : l.Nodup) (s : Sn) (x : Nat) (hx : x ∈ l) (hs : s x = false) : (l.filter (fun z => !upd s x z)).length + 1 = (l.filter (fun z => !s z)).length := by
  induction l with
  | nil => simp at hx
  | cons y l ih =>
    obtain ⟨hy, hl⟩ := List.nodup_cons.mp hn
    by_cases e : y = x
    · subst e
      have e2 : l.filter (fun z => !upd s y z) = l.filter (fun z => !s z) := List.filter_congr (fun z hz => by unfold upd; rw [if_neg (by rintro rfl; exact hy hz)])
      rw [List.filter_cons_of_neg (by simp [upd]), List.filter_cons_of_pos (by simp [hs]), e2]; rfl
    · have hx' : x ∈ l := by rcases List.mem_cons.mp hx with e' | e'; exact absurd e'.symm e; exact e'
      have e3 : upd s x y = s y := by unfold upd; rw [if_neg e]
      have := ih hl hx'
      cases hsy : s y with
      | true => rw [List.filter_cons_of_neg (by simp [e3, hsy]), List.filter_cons_of_neg (by simp [hsy])]; exact this
      | false => rw [List.filter_cons_of_pos (by simp [e3, hsy]), List.filter_cons_of_pos (by simp [hsy]), List.length_cons, List.length_cons]; omega
theorem cnt_upd {n : Nat} {s : Sn} {x : Nat} (hx : x < n) (hs : s x = false) : cnt n (upd s x) + 1 = cnt n s :=
  filter_upd _ List.nodup_range s x (List.mem_range.mpr hx) hs
theorem cnt_pos {n : Nat} {s : Sn} {x : Nat} (hx : x < n) (hs : s x = false) : 0 < cnt n s := by have := cnt_upd hx hs; omega

/-- On from a block: what is seen, and what was left, the first one first. -/
def visit (S : List (List Nat)) : Nat → Nat → Sn × List Nat → Sn × List Nat
  | 0, _, st => st
  | f + 1, x, st =>
    let r := (S.getD x []).foldl (fun st y => if st.1 y = true then st else visit S f y st) (upd st.1 x, st.2)
    (r.1, r.2 ++ [x])
def steps (S : List (List Nat)) (f : Nat) (l : List Nat) (st : Sn × List Nat) : Sn × List Nat := l.foldl (fun st y => if st.1 y = true then st else visit S f y st) st
theorem visit_succ (S : List (List Nat)) (f x : Nat) (st : Sn × List Nat) : visit S (f + 1) x st = ((steps S f (S.getD x []) (upd st.1 x, st.2)).1, (steps S f (S.getD x []) (upd st.1 x, st.2)).2 ++ [x]) := rfl
theorem steps_cons (S : List (List Nat)) (f y : Nat) (l : List Nat) (st : Sn × List Nat) : steps S f (y :: l) st = steps S f l (if st.1 y = true then st else visit S f y st) := rfl

/-- What can be reached. -/
inductive Rch (S : List (List Nat)) (w : Int) (r : Nat) : Nat → Prop
  | base : (r : Int) ≠ w → Rch S w r r
  | step {a y : Nat} : Rch S w r a → y ∈ S.getD a [] → (y : Int) ≠ w → Rch S w r y
theorem Rch.lt {S : List (List Nat)} (h : Gr S) {w : Int} {r : Nat} (hr : r < S.length) {x : Nat} (hx : Rch S w r x) : x < S.length := by
  induction hx with
  | base _ => exact hr
  | @step a y _ hy _ ih => exact (h.row a ih).2 y hy
theorem Rch.trans {S : List (List Nat)} {w : Int} {r a b : Nat} (h1 : Rch S w r a) (h2 : Rch S w a b) : Rch S w r b := by
  induction h2 with
  | base _ => exact h1
  | step _ hy hw ih => exact .step ih hy hw

/-- What a way through comes to. -/
structure Vis (S : List (List Nat)) (n : Nat) (st r : Sn × List Nat) : Prop where
  new : ∃ l, r.2 = st.2 ++ l ∧ (∀ z, r.1 z = true ↔ st.1 z = true ∨ z ∈ l) ∧ l.Nodup ∧ (∀ z ∈ l, st.1 z = false ∧ z < n) ∧ l.length + cnt n r.1 = cnt n st.1
theorem Vis.mono {S : List (List Nat)} {n : Nat} {st r : Sn × List Nat} (h : Vis S n st r) {z : Nat} (hz : st.1 z = true) : r.1 z = true := by
  obtain ⟨l, _, h2, _⟩ := h.new; exact (h2 z).mpr (.inl hz)
theorem Vis.refl (S : List (List Nat)) (n : Nat) (st : Sn × List Nat) : Vis S n st st := ⟨⟨[], by simp, by simp, by simp, by simp, by simp⟩⟩
theorem Vis.trans {S : List (List Nat)} {n : Nat} {a b c : Sn × List Nat} (h1 : Vis S n a b) (h2 : Vis S n b c) : Vis S n a c := by
  obtain ⟨l1, e1, s1, n1, u1, c1⟩ := h1.new
  obtain ⟨l2, e2, s2, n2, u2, c2⟩ := h2.new
  refine ⟨⟨l1 ++ l2, by rw [e2, e1, List.append_assoc], fun z => ?_, ?_, fun z hz => ?_, by rw [List.length_append]; omega⟩⟩
  · rw [s2, s1, List.mem_append, or_assoc]
  · rw [List.nodup_append]
    refine ⟨n1, n2, fun x hx y hy e => ?_⟩
    subst e
    have := (u2 _ hy).1
    rw [(s1 x).mpr (.inr hx)] at this; cases this
  · rcases List.mem_append.mp hz with hz | hz
    · exact u1 z hz
    · refine ⟨?_, (u2 z hz).2⟩
      cases ha : a.1 z with
      | false => rfl
      | true => have := (u2 z hz).1; rw [(s1 z).mpr (.inl ha)] at this; cases this

mutual
theorem visit_vis {S : List (List Nat)} (h : Gr S) : ∀ (f x : Nat) (st : Sn × List Nat), x < S.length → st.1 x = false → cnt S.length st.1 ≤ f → Vis S S.length st (visit S f x st) ∧ (visit S f x st).1 x = true
  | 0, x, st, hx, hs, hc => by have := cnt_pos hx hs; omega
  | f + 1, x, st, hx, hs, hc => by
    have hu := cnt_upd hx hs
    have h1 := steps_vis h f (S.getD x []) (upd st.1 x, st.2) (h.row x hx).2 (by show cnt _ (upd st.1 x) ≤ f; omega)
    rw [visit_succ]
    obtain ⟨l, e, s, nd, u, c⟩ := h1.new
    have hxl : x ∉ l := fun hm => by have := (u x hm).1; simp [upd] at this
    refine ⟨⟨⟨l ++ [x], by (show (steps S f (S.getD x []) (upd st.1 x, st.2)).2 ++ [x] = _); rw [e, List.append_assoc], fun z => ?_, ?_, fun z hz => ?_, ?_⟩⟩, (s x).mpr (.inl (upd_self _ _))⟩
    · show _ = true ↔ _
      rw [s]
      show upd st.1 x z = true ∨ _ ↔ _
      rw [upd_true, List.mem_append, List.mem_singleton]
      constructor
      · rintro ((e | e) | e)
        · exact .inr (.inr e)
        · exact .inl e
        · exact .inr (.inl e)
      · rintro (e | e | e)
        · exact .inl (.inr e)
        · exact .inr e
        · exact .inl (.inl e)
    · rw [List.nodup_append]
      refine ⟨nd, by simp, fun a ha b hb e' => ?_⟩
      rw [List.mem_singleton] at hb; rw [e', hb] at ha; exact hxl ha
    · rcases List.mem_append.mp hz with hz | hz
      · refine ⟨?_, (u z hz).2⟩
        have h2 := (u z hz).1
        cases ha : st.1 z with
        | false => rfl
        | true => have : upd st.1 x z = true := upd_true.mpr (.inr ha)
                  have h3 : upd st.1 x z = false := h2
                  rw [this] at h3; cases h3
      · rw [List.mem_singleton] at hz; subst hz; exact ⟨hs, hx⟩
    · rw [List.length_append, List.length_singleton]
      have c' : l.length + cnt S.length (steps S f (S.getD x []) (upd st.1 x, st.2)).1 = cnt S.length (upd st.1 x) := c
      show _ + cnt S.length (steps S f (S.getD x []) (upd st.1 x, st.2)).1 = _
      omega
theorem steps_vis {S : List (List Nat)} (h : Gr S) : ∀ (f : Nat) (l : List Nat) (st : Sn × List Nat), (∀ y ∈ l, y < S.length) → cnt S.length st.1 ≤ f → Vis S S.length st (steps S f l st)
  | _, [], st, _, _ => Vis.refl _ _ _
  | f, y :: l, st, hl, hc => by
    rw [steps_cons]
    by_cases hy : st.1 y = true
    · rw [if_pos hy]; exact steps_vis h f l st (fun z hz => hl z (List.mem_cons_of_mem _ hz)) hc
    · rw [if_neg hy]
      have h1 := (visit_vis h f y st (hl y (List.mem_cons_self ..)) (by simpa using hy) hc).1
      have h2 := steps_vis h f l (visit S f y st) (fun z hz => hl z (List.mem_cons_of_mem _ hz)) (Nat.le_trans (cnt_le (fun z hz => h1.mono hz)) hc)
      exact h1.trans h2
end
theorem steps_seen {S : List (List Nat)} (h : Gr S) (f : Nat) : ∀ (l : List Nat) (st : Sn × List Nat), (∀ y ∈ l, y < S.length) → cnt S.length st.1 ≤ f → ∀ y ∈ l, (steps S f l st).1 y = true := by
  intro l
  induction l with
  | nil => intro st _ _ y hy; simp at hy
  | cons x l ih =>
    intro st hl hc y hy
    rw [steps_cons]
    have hl' : ∀ z ∈ l, z < S.length := fun z hz => hl z (List.mem_cons_of_mem _ hz)
    by_cases hx : st.1 x = true
    · rw [if_pos hx]
      rcases List.mem_cons.mp hy with e | e
      · subst e; exact (steps_vis h f l st hl' hc).mono hx
      · exact ih st hl' hc y e
    · rw [if_neg hx]
      obtain ⟨h1, h2⟩ := visit_vis h f x st (hl x (List.mem_cons_self ..)) (by simpa using hx) hc
      have hc' : cnt S.length (visit S f x st).1 ≤ f := Nat.le_trans (cnt_le (fun z hz => h1.mono hz)) hc
      rcases List.mem_cons.mp hy with e | e
      · subst e; exact (steps_vis h f l _ hl' hc').mono h2
      · exact ih _ hl' hc' y e
/-! #### what is reached -/
mutual
theorem visit_rch {S : List (List Nat)} (r : Nat) : ∀ (f x : Nat) (st : Sn × List Nat), Rch S (-1) r x → ∀ z, (visit S f x st).1 z = true → st.1 z = true ∨ Rch S (-1) r z
  | 0, _, _, _, z, hz => .inl hz
  | f + 1, x, st, hx, z, hz => by
    rw [visit_succ] at hz
    rcases steps_rch r f (S.getD x []) (upd st.1 x, st.2) (fun y hy => .step hx hy (by omega)) z hz with e | e
    · rcases upd_true.mp e with e | e
      · subst e; exact .inr hx
      · exact .inl e
    · exact .inr e
theorem steps_rch {S : List (List Nat)} (r : Nat) : ∀ (f : Nat) (l : List Nat) (st : Sn × List Nat), (∀ y ∈ l, Rch S (-1) r y) → ∀ z, (steps S f l st).1 z = true → st.1 z = true ∨ Rch S (-1) r z
  | _, [], _, _, z, hz => .inl hz
  | f, y :: l, st, hl, z, hz => by
    rw [steps_cons] at hz
    have hl' : ∀ y ∈ l, Rch S (-1) r y := fun z hz => hl z (List.mem_cons_of_mem _ hz)
    by_cases hy : st.1 y = true
    · rw [if_pos hy] at hz; exact steps_rch r f l st hl' z hz
    · rw [if_neg hy] at hz
      rcases steps_rch r f l _ hl' z hz with e | e
      · exact visit_rch r f y st (hl y (List.mem_cons_self ..)) z e
      · exact .inr e
end
mutual
theorem visit_closed {S : List (List Nat)} (h : Gr S) : ∀ (f x : Nat) (st : Sn × List Nat), x < S.length → st.1 x = false → cnt S.length st.1 ≤ f → ∀ z, (visit S f x st).1 z = true → st.1 z = true ∨ ∀ y ∈ S.getD z [], (visit S f x st).1 y = true
  | 0, x, st, hx, hs, hc, _, _ => by have := cnt_pos hx hs; omega
  | f + 1, x, st, hx, hs, hc, z, hz => by
    have hu := cnt_upd hx hs
    have hcu : cnt S.length (upd st.1 x) ≤ f := by omega
    rw [visit_succ] at hz ⊢
    rcases steps_closed h f (S.getD x []) (upd st.1 x, st.2) (h.row x hx).2 hcu z hz with e | e
    · rcases upd_true.mp e with e | e
      · subst e; exact .inr (steps_seen h f _ _ (h.row z hx).2 hcu)
      · exact .inl e
    · exact .inr e
theorem steps_closed {S : List (List Nat)} (h : Gr S) : ∀ (f : Nat) (l : List Nat) (st : Sn × List Nat), (∀ y ∈ l, y < S.length) → cnt S.length st.1 ≤ f → ∀ z, (steps S f l st).1 z = true → st.1 z = true ∨ ∀ y ∈ S.getD z [], (steps S f l st).1 y = true
  | _, [], _, _, _, z, hz => .inl hz
  | f, y :: l, st, hl, hc, z, hz => by
    rw [steps_cons] at hz ⊢
    have hl' : ∀ y ∈ l, y < S.length := fun z hz => hl z (List.mem_cons_of_mem _ hz)
    by_cases hy : st.1 y = true
    · rw [if_pos hy] at hz ⊢; exact steps_closed h f l st hl' hc z hz
    · rw [if_neg hy] at hz ⊢
      have hy' : st.1 y = false := by simpa using hy
      have h1 := (visit_vis h f y st (hl y (List.mem_cons_self ..)) hy' hc).1
      have hc' : cnt S.length (visit S f y st).1 ≤ f := Nat.le_trans (cnt_le (fun z hz => h1.mono hz)) hc
      rcases steps_closed h f l _ hl' hc' z hz with e | e
      · rcases visit_closed h f y st (hl y (List.mem_cons_self ..)) hy' hc z e with e | e
        · exact .inl e
        · exact .inr (fun w hw => (steps_vis h f l _ hl' hc').mono (e w hw))
      · exact .inr e
end

/-! #### where all ways go up -/
/-- Each block ahead of which all those at which it goes on are left. -/
def Ord (S : List (List Nat)) (o : List Nat) : Prop := ∀ l a t, o = l ++ a :: t → ∀ y ∈ S.getD a [], y ∈ l
theorem ord_snoc {S : List (List Nat)} {o : List Nat} {x : Nat} (h : Ord S o) (hx : ∀ y ∈ S.getD x [], y ∈ o) : Ord S (o ++ [x]) := by
  intro l a t e y hy
  rcases List.append_eq_append_iff.mp e with ⟨m, hm1, hm2⟩ | ⟨m, hm1, hm2⟩
  · cases m with
    | nil =>
      have e2 : x :: [] = a :: t := by simpa using hm2
      injection e2 with e3 e4
      subst e3
      rw [List.append_nil] at hm1; subst hm1
      exact hx y hy
    | cons b m =>
      have e2 : [x] = (b :: m) ++ a :: t := hm2
      have := congrArg List.length e2
      simp only [List.length_append, List.length_cons, List.length_nil] at this; omega
  · cases m with
    | nil =>
      have e2 : a :: t = [x] := by simpa using hm2
      injection e2 with e3 e4
      subst e3
      rw [List.append_nil] at hm1; subst hm1
      exact hx y hy
    | cons b m =>
      have e2 : a :: t = (b :: m) ++ [x] := hm2
      injection e2 with e3 e4
      subst e3
      exact h l a m hm1 y hy
mutual
theorem visit_ord {S : List (List Nat)} (h : Gr S) (up : ∀ i, ∀ y ∈ S.getD i [], i < y) : ∀ (f x : Nat) (st : Sn × List Nat), x < S.length → st.1 x = false → cnt S.length st.1 ≤ f → Ord S st.2 → (∀ z, st.1 z = true → z ∈ st.2 ∨ z < x) → Ord S (visit S f x st).2
  | 0, x, st, hx, hs, hc, _, _ => by have := cnt_pos hx hs; omega
  | f + 1, x, st, hx, hs, hc, ho, hlt => by
    have hu := cnt_upd hx hs
    have hcu : cnt S.length (upd st.1 x) ≤ f := by omega
    rw [visit_succ]
    have hy := up x
    obtain ⟨h1, h2⟩ := steps_ord h up f x (S.getD x []) (upd st.1 x, st.2) (fun y hm => ⟨(h.row x hx).2 y hm, hy y hm⟩) hcu ho (fun z hz => by
      rcases upd_true.mp hz with e | e
      · exact .inr (Nat.le_of_eq e)
      · rcases hlt z e with e | e
        · exact .inl e
        · exact .inr (Nat.le_of_lt e))
    refine ord_snoc h1 (fun y hm => ?_)
    rcases h2 y (steps_seen h f _ _ (h.row x hx).2 hcu y hm) with e | e
    · exact e
    · have := hy y hm; omega
theorem steps_ord {S : List (List Nat)} (h : Gr S) (up : ∀ i, ∀ y ∈ S.getD i [], i < y) : ∀ (f x : Nat) (l : List Nat) (st : Sn × List Nat), (∀ y ∈ l, y < S.length ∧ x < y) → cnt S.length st.1 ≤ f → Ord S st.2 → (∀ z, st.1 z = true → z ∈ st.2 ∨ z ≤ x) → Ord S (steps S f l st).2 ∧ ∀ z, (steps S f l st).1 z = true → z ∈ (steps S f l st).2 ∨ z ≤ x
  | _, _, [], _, _, _, ho, hlt => ⟨ho, hlt⟩
  | f, x, y :: l, st, hl, hc, ho, hlt => by
    rw [steps_cons]
    have hl' : ∀ y ∈ l, y < S.length ∧ x < y := fun z hz => hl z (List.mem_cons_of_mem _ hz)
    by_cases hy : st.1 y = true
    · rw [if_pos hy]; exact steps_ord h up f x l st hl' hc ho hlt
    · rw [if_neg hy]
      have hy' : st.1 y = false := by simpa using hy
      obtain ⟨hyn, hyx⟩ := hl y (List.mem_cons_self ..)
      have h1 := (visit_vis h f y st hyn hy' hc).1
      have hc' : cnt S.length (visit S f y st).1 ≤ f := Nat.le_trans (cnt_le (fun z hz => h1.mono hz)) hc
      refine steps_ord h up f x l _ hl' hc' (visit_ord h up f y st hyn hy' hc ho (fun z hz => ?_)) (fun z hz => ?_)
      · rcases hlt z hz with e | e
        · exact .inl e
        · exact .inr (by omega)
      · obtain ⟨n, e1, e2, _⟩ := h1.new
        rw [e1]
        rcases (e2 z).mp hz with e | e
        · rcases hlt z e with e | e
          · exact .inl (List.mem_append.mpr (.inl e))
          · exact .inr e
        · exact .inl (List.mem_append.mpr (.inr e))
end

/-! #### the order from a root -/
def none' : Sn := fun _ => false
theorem cnt_none (n : Nat) : cnt n none' = n := by
  show ((List.range n).filter (fun z => !none' z)).length = n
  rw [show (List.range n).filter (fun z => !none' z) = List.range n from List.filter_eq_self.mpr (fun _ _ => rfl), List.length_range]
def dfs (S : List (List Nat)) (r : Nat) : List Nat := (visit S S.length r (none', [])).2.reverse
theorem dfs_vis {S : List (List Nat)} (h : Gr S) {r : Nat} (hr : r < S.length) : Vis S S.length (none', []) (visit S S.length r (none', [])) ∧ (visit S S.length r (none', [])).1 r = true :=
  visit_vis h S.length r (none', []) hr rfl (Nat.le_of_eq (cnt_none _))
theorem dfs_seen {S : List (List Nat)} (h : Gr S) {r : Nat} (hr : r < S.length) (z : Nat) : z ∈ dfs S r ↔ (visit S S.length r (none', [])).1 z = true := by
  obtain ⟨l, e1, e2, _⟩ := (dfs_vis h hr).1.new
  rw [dfs, List.mem_reverse, e1, e2, List.nil_append]
  constructor
  · exact .inr
  · rintro (e | e)
    · cases e
    · exact e
theorem dfs_mem {S : List (List Nat)} (h : Gr S) {r : Nat} (hr : r < S.length) (z : Nat) : z ∈ dfs S r ↔ Rch S (-1) r z := by
  rw [dfs_seen h hr]
  constructor
  · intro hz
    rcases visit_rch r S.length r (none', []) (.base (by omega)) z hz with e | e
    · cases e
    · exact e
  · intro hz
    induction hz with
    | base _ => exact (dfs_vis h hr).2
    | @step a y _ hy _ ih =>
      rcases visit_closed h S.length r (none', []) hr rfl (Nat.le_of_eq (cnt_none _)) a ih with e | e
      · cases e
      · exact e y hy
theorem dfs_nodup {S : List (List Nat)} (h : Gr S) {r : Nat} (hr : r < S.length) : (dfs S r).Nodup := by
  obtain ⟨l, e1, _, e3, _⟩ := (dfs_vis h hr).1.new
  rw [dfs, e1, List.nil_append]
  exact (List.reverse_perm l).nodup_iff.mpr e3
theorem dfs_lt {S : List (List Nat)} (h : Gr S) {r : Nat} (hr : r < S.length) : ∀ z ∈ dfs S r, z < S.length := by
  intro z hz
  exact ((dfs_mem h hr z).mp hz).lt h hr
theorem dfs_head {S : List (List Nat)} (h : Gr S) (r : Nat) : ∃ l, dfs S r = r :: l := by
  obtain ⟨f, hf⟩ : ∃ f, S.length = f + 1 := ⟨S.length - 1, by have := h.pos; omega⟩
  refine ⟨(steps S f (S.getD r []) (upd none' r, [])).2.reverse, ?_⟩
  rw [dfs, hf, visit_succ]
  simp
theorem dfs_len {S : List (List Nat)} (h : Gr S) {r : Nat} (hr : r < S.length) : (dfs S r).length ≤ S.length := by
  obtain ⟨l, e1, _, _, _, e5⟩ := (dfs_vis h hr).1.new
  have : cnt S.length none' = S.length := cnt_none _
  have e6 : l.length + cnt S.length (visit S S.length r (none', [])).1 = cnt S.length none' := e5
  rw [dfs, e1, List.length_reverse, List.nil_append]; omega
theorem dfs_ord {S : List (List Nat)} (h : Gr S) (hup : ∀ i, ∀ y ∈ S.getD i [], i < y) {r : Nat} (hr : r < S.length) : ∀ l a t, dfs S r = t ++ a :: l → ∀ y ∈ S.getD a [], y ∈ l := by
  intro l a t e y hy
  have h1 := visit_ord h hup S.length r (none', []) hr rfl (Nat.le_of_eq (cnt_none _)) (fun l a t e => by simp at e) (fun z hz => by cases hz)
  have e2 : (visit S S.length r (none', [])).2 = l.reverse ++ a :: t.reverse := by
    have := congrArg List.reverse e
    rw [dfs, List.reverse_reverse] at this
    rw [this]; simp
  exact List.mem_reverse.mp (h1 _ _ _ e2 y hy)
/-! #### dominance -/
/-- Blocks' places, and from where each is come to from ahead. -/
structure Pl (S : List (List Nat)) (r : Nat) (at_ par : Nat → Nat) : Prop where
  inj : ∀ x y, Rch S (-1) r x → Rch S (-1) r y → at_ x = at_ y → x = y
  par : ∀ x, Rch S (-1) r x → x ≠ r → Rch S (-1) r (par x) ∧ x ∈ S.getD (par x) [] ∧ at_ (par x) < at_ x
/-- A block dominates another one. -/
def Dm (S : List (List Nat)) (r d x : Nat) : Prop := Rch S (-1) r x ∧ ¬ Rch S (d : Int) r x
section
variable {S : List (List Nat)} {r : Nat}
theorem rch_no {d : Nat} : ¬ Rch S (d : Int) r d := fun h => by
  cases h with
  | base h => exact h rfl
  | step _ _ h => exact h rfl
theorem rch_all {w : Int} {x : Nat} (h : Rch S w r x) : Rch S (-1) r x := by
  induction h with
  | base _ => exact .base (by omega)
  | step _ hy _ ih => exact .step ih hy (by omega)
theorem rch_root {w : Int} {x : Nat} (h : Rch S w r x) : Rch S w r r := by
  induction h with
  | base h => exact .base h
  | step _ _ _ ih => exact ih
theorem Dm.rch {d x : Nat} (h : Dm S r d x) : Rch S (-1) r x := h.1
theorem dm_refl {x : Nat} (h : Rch S (-1) r x) : Dm S r x x := ⟨h, rch_no⟩
theorem dm_root {x : Nat} (h : Rch S (-1) r x) : Dm S r r x := ⟨h, fun h' => rch_no (rch_root h')⟩
theorem dm_of_root {d : Nat} (h : Dm S r d r) : d = r := by
  refine Classical.byContradiction (fun hn => h.2 (.base (by omega)))
theorem dm_pred {d x p : Nat} (h : Dm S r d x) (hd : d ≠ x) (hp : Rch S (-1) r p) (hx : x ∈ S.getD p []) : Dm S r d p :=
  ⟨hp, fun h' => h.2 (.step h' hx (by omega))⟩
theorem dm_past {a b c : Nat} (h : Rch S (a : Int) r c) : Dm S r b c → Rch S (a : Int) r b := by
  induction h with
  | base h => intro hb; rw [dm_of_root hb]; exact .base h
  | @step q y hq hy hw ih =>
    intro hb
    by_cases e : b = y
    · subst e; exact .step hq hy hw
    · exact ih (dm_pred hb e (rch_all hq) hy)
theorem dm_trans {a b c : Nat} (h1 : Dm S r a b) (h2 : Dm S r b c) : Dm S r a c := ⟨h2.1, fun h => h1.2 (dm_past h h2)⟩
theorem dm_rch {d x : Nat} (h : Dm S r d x) : Rch S (-1) r d := by
  refine Classical.byContradiction (fun hn => h.2 ?_)
  have : ∀ y, Rch S (-1) r y → Rch S (d : Int) r y := by
    intro y hy
    induction hy with
    | base h0 => exact .base (fun e => hn (by rw [← Int.ofNat_inj.mp e]; exact .base h0))
    | @step a y ha hya _ ih => exact .step ih hya (fun e => hn (by rw [← Int.ofNat_inj.mp e]; exact .step ha hya (by omega)))
  exact this x h.1
variable {at_ par : Nat → Nat}
theorem dm_le (hP : Pl S r at_ par) {d : Nat} : ∀ (n x : Nat), at_ x ≤ n → Dm S r d x → at_ d ≤ at_ x := by
  intro n
  induction n with
  | zero =>
    intro x hx h
    by_cases e : d = x
    · subst e; omega
    · by_cases er : x = r
      · subst er; exact absurd (dm_of_root h) e
      · have := (hP.par x h.1 er).2.2; omega
  | succ n ih =>
    intro x hx h
    by_cases e : d = x
    · subst e; omega
    · by_cases er : x = r
      · subst er; exact absurd (dm_of_root h) e
      · obtain ⟨h1, h2, h3⟩ := hP.par x h.1 er
        have := ih (par x) (by omega) (dm_pred h e h1 h2); omega
theorem dm_antisymm (hP : Pl S r at_ par) {a b : Nat} (h1 : Dm S r a b) (h2 : Dm S r b a) : a = b :=
  hP.inj a b h2.1 h1.1 (Nat.le_antisymm (dm_le hP _ _ (Nat.le_refl _) h1) (dm_le hP _ _ (Nat.le_refl _) h2))
/-- The nearest of those that dominate a block. -/
def Idm (S : List (List Nat)) (r z x : Nat) : Prop := Dm S r z x ∧ z ≠ x ∧ ∀ d, Dm S r d x → d ≠ x → Dm S r d z
theorem idm_unique (hP : Pl S r at_ par) {z z' x : Nat} (h : Idm S r z x) (h' : Idm S r z' x) : z = z' :=
  dm_antisymm hP (h'.2.2 z h.1 h.2.1) (h.2.2 z' h'.1 h'.2.1)

/-! #### trees that are being made -/
abbrev Tr := Nat → Option Nat
/-- One is got to from another one, going up. -/
inductive An (T : Tr) (r c : Nat) : Nat → Prop
  | refl {y : Nat} : T c = some y → An T r c c
  | up {x y : Nat} : T x = some y → x ≠ r → An T r c y → An T r c x
inductive Pa (r z : Nat) (par : Nat → Nat) : Nat → Prop
  | refl : Pa r z par z
  | step {x : Nat} : x ≠ r → Pa r z par (par x) → Pa r z par x
theorem Pa.trans {a b c : Nat} (h1 : Pa r a par b) (h2 : Pa r b par c) : Pa r a par c := by
  induction h2 with
  | refl => exact h1
  | step h _ ih => exact .step h ih
structure Inv (S : List (List Nat)) (r : Nat) (at_ par : Nat → Nat) (T : Tr) : Prop where
  root : T r = some r
  rch : ∀ x y, T x = some y → Rch S (-1) r x
  lt : ∀ x y, T x = some y → x ≠ r → at_ y < at_ x ∧ ∃ z, T y = some z
  pa : ∀ x y, T x = some y → x ≠ r → Pa r y par x
  dom : ∀ x y, T x = some y → x ≠ r → ∀ d, Dm S r d x → d ≠ x → Dm S r d y
  low : ∀ x y, T x = some y → x ≠ r → ∀ c, (∀ p z, x ∈ S.getD p [] → T p = some z → An T r c p) → at_ c ≤ at_ y
theorem An.has {T : Tr} {c x : Nat} (h : An T r c x) : ∃ y, T x = some y := by
  cases h with
  | refl h => exact ⟨_, h⟩
  | up h _ _ => exact ⟨_, h⟩
theorem An.top {T : Tr} {c x : Nat} (h : An T r c x) : ∃ y, T c = some y := by
  induction h with
  | refl h => exact ⟨_, h⟩
  | up _ _ _ ih => exact ih
theorem An.trans {T : Tr} {a b c : Nat} (h1 : An T r a b) (h2 : An T r b c) : An T r a c := by
  induction h2 with
  | refl h => exact h1
  | up h hr _ ih => exact .up h hr ih
theorem An.le {T : Tr} (hI : Inv S r at_ par T) {c x : Nat} (h : An T r c x) : at_ c ≤ at_ x := by
  induction h with
  | refl h => exact Nat.le_refl _
  | up h hr _ ih => have := (hI.lt _ _ h hr).1; omega
theorem An.lt {T : Tr} (hI : Inv S r at_ par T) {c x : Nat} (h : An T r c x) (hc : c ≠ x) : at_ c < at_ x := by
  cases h with
  | refl h => exact absurd rfl hc
  | up h hr h2 => have := (hI.lt _ _ h hr).1; have := h2.le hI; omega
theorem An.pa {T : Tr} (hI : Inv S r at_ par T) {c x : Nat} (h : An T r c x) : Pa r c par x := by
  induction h with
  | refl h => exact .refl
  | up h hr _ ih => exact ih.trans (hI.pa _ _ h hr)
theorem dm_an {T : Tr} (hI : Inv S r at_ par T) {d : Nat} : ∀ (n x y : Nat), at_ x ≤ n → T x = some y → Dm S r d x → An T r d x := by
  intro n
  induction n with
  | zero =>
    intro x y hn hx h
    by_cases e : d = x
    · subst e; exact .refl hx
    · by_cases er : x = r
      · subst er; exact absurd (dm_of_root h) e
      · have := (hI.lt x y hx er).1; omega
  | succ n ih =>
    intro x y hn hx h
    by_cases e : d = x
    · subst e; exact .refl hx
    · by_cases er : x = r
      · subst er; exact absurd (dm_of_root h) e
      · obtain ⟨h1, z, h2⟩ := hI.lt x y hx er
        exact .up hx er (ih y z (by omega) h2 (hI.dom x y hx er d h e))
theorem an_dm {T : Tr} (hI : Inv S r at_ par T) {d m q : Nat} (h : An T r m q) : Dm S r d q → at_ d ≤ at_ m → Dm S r d m := by
  induction h with
  | refl h => exact fun h _ => h
  | @up x y h hr h2 ih =>
    intro hd hl
    have h3 := (hI.lt _ _ h hr).1
    have h4 := h2.le hI
    exact ih (hI.dom _ _ h hr d hd (by rintro rfl; omega)) hl
/-- What is right as it is: it is over all from which one comes. -/
def Fx (S : List (List Nat)) (r : Nat) (T : Tr) (x : Nat) : Prop := ∃ z, T x = some z ∧ ∀ p y, x ∈ S.getD p [] → T p = some y → An T r z p
def put (T : Tr) (x m : Nat) : Tr := fun y => if y = x then some m else T y
theorem put_self (T : Tr) (x m : Nat) : put T x m x = some m := by simp [put]
theorem put_ne {T : Tr} {x m y : Nat} (h : y ≠ x) : put T x m y = T y := by simp [put, h]
/-- The nearest one to which one comes from all. -/
def Best (S : List (List Nat)) (r : Nat) (T : Tr) (x m : Nat) : Prop :=
  (∀ p y, x ∈ S.getD p [] → T p = some y → An T r m p) ∧ ∀ c, (∀ p y, x ∈ S.getD p [] → T p = some y → An T r c p) → An T r c m
theorem best_at (hP : Pl S r at_ par) {T : Tr} (hI : Inv S r at_ par T) {x m : Nat} (hx : Rch S (-1) r x) (hr : x ≠ r) (hF : ∀ y, Rch S (-1) r y → at_ y < at_ x → y ≠ r → Fx S r T y) (hB : Best S r T x m) :
    An T r m (par x) ∧ at_ m < at_ x ∧ Pa r m par x := by
  obtain ⟨h1, h2, h3⟩ := hP.par x hx hr
  have h4 : ∃ y, T (par x) = some y := by
    by_cases e : par x = r
    · rw [e]; exact ⟨_, hI.root⟩
    · obtain ⟨z, hz, _⟩ := hF _ h1 h3 e; exact ⟨z, hz⟩
  obtain ⟨y, h4⟩ := h4
  have h5 := hB.1 _ _ h2 h4
  have h6 := h5.le hI
  exact ⟨h5, by omega, .step hr (h5.pa hI)⟩
theorem best_up (hP : Pl S r at_ par) {T : Tr} (hI : Inv S r at_ par T) {x m y : Nat} (hF : ∀ y, Rch S (-1) r y → at_ y < at_ x → y ≠ r → Fx S r T y) (hm : at_ m ≤ at_ y) {v : Nat} (hpa : Pa r y par v) :
    Rch S (-1) r v → at_ v < at_ x → An T r m v → An T r m y := by
  induction hpa with
  | refl => exact fun _ _ h => h
  | @step v hv hp ih =>
    intro hR hv2 ha
    obtain ⟨h1, h2, h3⟩ := hP.par v hR hv
    have hle : at_ y ≤ at_ (par v) := by
      have : ∀ {w : Nat}, Pa r y par w → Rch S (-1) r w → at_ y ≤ at_ w := by
        intro w hw
        induction hw with
        | refl => exact fun _ => Nat.le_refl _
        | @step w hw _ ih => intro hR'; obtain ⟨g1, _, g3⟩ := hP.par w hR' hw; have := ih g1; omega
      exact this hp h1
    obtain ⟨z, hz, hf⟩ := hF v hR hv2 hv
    have hz2 : ∃ y, T (par v) = some y := by
      by_cases e : par v = r
      · rw [e]; exact ⟨_, hI.root⟩
      · obtain ⟨z, hz, _⟩ := hF _ h1 (by omega) e; exact ⟨z, hz⟩
    obtain ⟨z2, hz2⟩ := hz2
    refine ih h1 (by omega) ?_
    cases ha with
    | refl _ => omega
    | @up _ y' h _ h5 =>
      rw [hz] at h; cases h
      exact h5.trans (hf _ _ h2 hz2)
/-- One more step keeps all of it, and goes up. -/
theorem step_inv (hP : Pl S r at_ par) {T : Tr} (hI : Inv S r at_ par T) {x m : Nat} (hx : Rch S (-1) r x) (hr : x ≠ r) (hF : ∀ y, Rch S (-1) r y → at_ y < at_ x → y ≠ r → Fx S r T y) (hB : Best S r T x m) :
    Inv S r at_ par (put T x m) ∧ ∀ y, T x = some y → m ≠ y → at_ m < at_ y := by
  obtain ⟨h1, h2, h3⟩ := best_at hP hI hx hr hF hB
  obtain ⟨p1, p2, p3⟩ := hP.par x hx hr
  obtain ⟨mz, hmz⟩ := h1.top
  have hmx : m ≠ x := by rintro rfl; omega
  have hup : ∀ y, T x = some y → An T r m y := by
    intro y hy
    have hl := hI.low x y hy hr m hB.1
    have hpa := hI.pa x y hy hr
    cases hpa with
    | refl => have := (hI.lt x x hy hr).1; omega
    | step _ hpa => exact best_up hP hI hF hl hpa p1 p3 h1
  have hdown : ∀ {c v : Nat}, An (put T x m) r c v → ∀ z, T v = some z → An T r c v := by
    intro c v h
    induction h with
    | @refl y h => intro z hz; exact .refl hz
    | @up v y h hv h5 ih =>
      intro z hz
      by_cases e : v = x
      · subst e
        rw [put_self] at h; cases h
        exact .up hz hv ((ih _ hmz).trans (hup _ hz))
      · rw [put_ne e, hz] at h; cases h
        obtain ⟨_, z2, h6⟩ := hI.lt v _ hz hv
        exact .up hz hv (ih _ h6)
  have hthere : ∀ v z, T v = some z → ∃ z', put T x m v = some z' := by
    intro v z hz
    by_cases e : v = x
    · subst e; exact ⟨_, put_self _ _ _⟩
    · exact ⟨z, by rw [put_ne e]; exact hz⟩
  refine ⟨⟨?_, ?_, ?_, ?_, ?_, ?_⟩, ?_⟩
  · rw [put_ne (fun e => hr e.symm)]; exact hI.root
  · intro v y hv
    by_cases e : v = x
    · subst e; exact hx
    · rw [put_ne e] at hv; exact hI.rch _ _ hv
  · intro v y hv hvr
    by_cases e : v = x
    · subst e
      rw [put_self] at hv; cases hv
      exact ⟨h2, mz, by rw [put_ne hmx]; exact hmz⟩
    · rw [put_ne e] at hv
      obtain ⟨h6, z, h7⟩ := hI.lt v y hv hvr
      exact ⟨h6, hthere _ _ h7⟩
  · intro v y hv hvr
    by_cases e : v = x
    · subst e
      rw [put_self] at hv; cases hv; exact h3
    · rw [put_ne e] at hv; exact hI.pa v y hv hvr
  · intro v y hv hvr d hd hdv
    by_cases e : v = x
    · subst e
      rw [put_self] at hv; cases hv
      have hall : ∀ p y, v ∈ S.getD p [] → T p = some y → An T r d p := fun p y hp hy => dm_an hI _ p y (Nat.le_refl _) hy (dm_pred hd hdv (hI.rch _ _ hy) hp)
      exact an_dm hI h1 (dm_pred hd hdv p1 p2) ((hB.2 d hall).le hI)
    · rw [put_ne e] at hv; exact hI.dom v y hv hvr d hd hdv
  · intro v y hv hvr c hc
    have hc' : ∀ p z, v ∈ S.getD p [] → T p = some z → An T r c p := by
      intro p z hp hz
      obtain ⟨z', hz'⟩ := hthere p z hz
      exact hdown (hc p z' hp hz') z hz
    by_cases e : v = x
    · subst e
      rw [put_self] at hv; cases hv
      exact (hB.2 c hc').le hI
    · rw [put_ne e] at hv; exact hI.low v y hv hvr c hc'
  · intro y hy hne
    exact (hup y hy).lt hI hne
/-- Where all is right, each entry is the nearest one that dominates. -/
theorem fix_idm {T : Tr} (hI : Inv S r at_ par T) (hF : ∀ y, Rch S (-1) r y → y ≠ r → Fx S r T y) : ∀ x z, T x = some z → x ≠ r → Idm S r z x := by
  have key : ∀ (c x : Nat), Rch S (c : Int) r x → An T r c x → False := by
    intro c x h
    induction h with
    | base h =>
      intro ha
      cases ha with
      | refl _ => exact h rfl
      | up _ h2 _ => exact h2 rfl
    | @step a x ha hx hw ih =>
      intro hA
      have haR := rch_all ha
      cases hA with
      | refl _ => exact hw rfl
      | @up _ z h2 hr h3 =>
        obtain ⟨z', hz', hf⟩ := hF x (.step haR hx (by omega)) hr
        rw [h2] at hz'; cases hz'
        have : ∃ y, T a = some y := by
          by_cases e : a = r
          · rw [e]; exact ⟨_, hI.root⟩
          · obtain ⟨y, hy, _⟩ := hF a haR e; exact ⟨y, hy⟩
        obtain ⟨y, hy⟩ := this
        exact ih (h3.trans (hf a y hx hy))
  intro x z hx hr
  have hR := hI.rch _ _ hx
  obtain ⟨h1, z2, h2⟩ := hI.lt x z hx hr
  refine ⟨⟨hR, fun h => key z x h (.up hx hr (.refl h2))⟩, by rintro rfl; omega, hI.dom x z hx hr⟩
end
end Go.PrS
