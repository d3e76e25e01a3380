/- What the way through a graph leaves: the blocks reached, each once, the root first, each ahead of its next ones where all ways go up. No conditions beyond each theorem's own. -/
import Derived.Test.YtokfaaemhniodaaGVisit
namespace Go.Proofs.Ytokfaaemhniodaa.GP

/-! #### what is reached -/
mutual
theorem visit_rch {S : List (List Nat)} (r : Nat) : ∀ (f x : Nat) (st : Sn × List Nat), Rch S (-1) r x → ∀ z, (visit S f x st).1 z = true → st.1 z = true ∨ Rch S (-1) r z
  | 0, _, _, _, z, hz => .inl hz
  | f + 1, x, st, hx, z, hz => by
    rw [visit_succ] at hz
    rcases steps_rch r f (S.getD x []) (upd st.1 x, st.2) (fun y hy => .step hx hy (by omega)) z hz with e | e
    · rcases upd_true.mp e with e | e
      · subst e; exact .inr hx
      · exact .inl e
    · exact .inr e
theorem steps_rch {S : List (List Nat)} (r : Nat) : ∀ (f : Nat) (l : List Nat) (st : Sn × List Nat), (∀ y ∈ l, Rch S (-1) r y) → ∀ z, (steps S f l st).1 z = true → st.1 z = true ∨ Rch S (-1) r z
  | _, [], _, _, z, hz => .inl hz
  | f, y :: l, st, hl, z, hz => by
    rw [steps_cons] at hz
    have hl' : ∀ y ∈ l, Rch S (-1) r y := fun z hz => hl z (List.mem_cons_of_mem _ hz)
    by_cases hy : st.1 y = true
    · rw [if_pos hy] at hz; exact steps_rch r f l st hl' z hz
    · rw [if_neg hy] at hz
      rcases steps_rch r f l _ hl' z hz with e | e
      · exact visit_rch r f y st (hl y (List.mem_cons_self ..)) z e
      · exact .inr e
end
mutual
theorem visit_closed {S : List (List Nat)} (h : Gr S) : ∀ (f x : Nat) (st : Sn × List Nat), x < S.length → st.1 x = false → cnt S.length st.1 ≤ f → ∀ z, (visit S f x st).1 z = true → st.1 z = true ∨ ∀ y ∈ S.getD z [], (visit S f x st).1 y = true
  | 0, x, st, hx, hs, hc, _, _ => by have := cnt_pos hx hs; omega
  | f + 1, x, st, hx, hs, hc, z, hz => by
    have hu := cnt_upd hx hs
    have hcu : cnt S.length (upd st.1 x) ≤ f := by omega
    rw [visit_succ] at hz ⊢
    rcases steps_closed h f (S.getD x []) (upd st.1 x, st.2) (h.row x hx).2 hcu z hz with e | e
    · rcases upd_true.mp e with e | e
      · subst e; exact .inr (steps_seen h f _ _ (h.row z hx).2 hcu)
      · exact .inl e
    · exact .inr e
theorem steps_closed {S : List (List Nat)} (h : Gr S) : ∀ (f : Nat) (l : List Nat) (st : Sn × List Nat), (∀ y ∈ l, y < S.length) → cnt S.length st.1 ≤ f → ∀ z, (steps S f l st).1 z = true → st.1 z = true ∨ ∀ y ∈ S.getD z [], (steps S f l st).1 y = true
  | _, [], _, _, _, z, hz => .inl hz
  | f, y :: l, st, hl, hc, z, hz => by
    rw [steps_cons] at hz ⊢
    have hl' : ∀ y ∈ l, y < S.length := fun z hz => hl z (List.mem_cons_of_mem _ hz)
    by_cases hy : st.1 y = true
    · rw [if_pos hy] at hz ⊢; exact steps_closed h f l st hl' hc z hz
    · rw [if_neg hy] at hz ⊢
      have hy' : st.1 y = false := by simpa using hy
      have h1 := (visit_vis h f y st (hl y (List.mem_cons_self ..)) hy' hc).1
      have hc' : cnt S.length (visit S f y st).1 ≤ f := Nat.le_trans (cnt_le (fun z hz => h1.mono hz)) hc
      rcases steps_closed h f l _ hl' hc' z hz with e | e
      · rcases visit_closed h f y st (hl y (List.mem_cons_self ..)) hy' hc z e with e | e
        · exact .inl e
        · exact .inr (fun w hw => (steps_vis h f l _ hl' hc').mono (e w hw))
      · exact .inr e
end

/-! #### where all ways go up -/
/-- Each block ahead of which all those at which it goes on are left. -/
def Ord (S : List (List Nat)) (o : List Nat) : Prop := ∀ l a t, o = l ++ a :: t → ∀ y ∈ S.getD a [], y ∈ l
theorem ord_snoc {S : List (List Nat)} {o : List Nat} {x : Nat} (h : Ord S o) (hx : ∀ y ∈ S.getD x [], y ∈ o) : Ord S (o ++ [x]) := by
  intro l a t e y hy
  rcases List.append_eq_append_iff.mp e with ⟨m, hm1, hm2⟩ | ⟨m, hm1, hm2⟩
  · cases m with
    | nil =>
      have e2 : x :: [] = a :: t := by simpa using hm2
      injection e2 with e3 e4
      subst e3
      rw [List.append_nil] at hm1; subst hm1
      exact hx y hy
    | cons b m =>
      have e2 : [x] = (b :: m) ++ a :: t := hm2
      have := congrArg List.length e2
      simp only [List.length_append, List.length_cons, List.length_nil] at this; omega
  · cases m with
    | nil =>
      have e2 : a :: t = [x] := by simpa using hm2
      injection e2 with e3 e4
      subst e3
      rw [List.append_nil] at hm1; subst hm1
      exact hx y hy
    | cons b m =>
      have e2 : a :: t = (b :: m) ++ [x] := hm2
      injection e2 with e3 e4
      subst e3
      exact h l a m hm1 y hy
mutual
theorem visit_ord {S : List (List Nat)} (h : Gr S) (up : ∀ i, ∀ y ∈ S.getD i [], i < y) : ∀ (f x : Nat) (st : Sn × List Nat), x < S.length → st.1 x = false → cnt S.length st.1 ≤ f → Ord S st.2 → (∀ z, st.1 z = true → z ∈ st.2 ∨ z < x) → Ord S (visit S f x st).2
  | 0, x, st, hx, hs, hc, _, _ => by have := cnt_pos hx hs; omega
  | f + 1, x, st, hx, hs, hc, ho, hlt => by
    have hu := cnt_upd hx hs
    have hcu : cnt S.length (upd st.1 x) ≤ f := by omega
    rw [visit_succ]
    have hy := up x
    obtain ⟨h1, h2⟩ := steps_ord h up f x (S.getD x []) (upd st.1 x, st.2) (fun y hm => ⟨(h.row x hx).2 y hm, hy y hm⟩) hcu ho (fun z hz => by
      rcases upd_true.mp hz with e | e
      · exact .inr (Nat.le_of_eq e)
      · rcases hlt z e with e | e
        · exact .inl e
        · exact .inr (Nat.le_of_lt e))
    refine ord_snoc h1 (fun y hm => ?_)
    rcases h2 y (steps_seen h f _ _ (h.row x hx).2 hcu y hm) with e | e
    · exact e
    · have := hy y hm; omega
theorem steps_ord {S : List (List Nat)} (h : Gr S) (up : ∀ i, ∀ y ∈ S.getD i [], i < y) : ∀ (f x : Nat) (l : List Nat) (st : Sn × List Nat), (∀ y ∈ l, y < S.length ∧ x < y) → cnt S.length st.1 ≤ f → Ord S st.2 → (∀ z, st.1 z = true → z ∈ st.2 ∨ z ≤ x) → Ord S (steps S f l st).2 ∧ ∀ z, (steps S f l st).1 z = true → z ∈ (steps S f l st).2 ∨ z ≤ x
  | _, _, [], _, _, _, ho, hlt => ⟨ho, hlt⟩
  | f, x, y :: l, st, hl, hc, ho, hlt => by
    rw [steps_cons]
    have hl' : ∀ y ∈ l, y < S.length ∧ x < y := fun z hz => hl z (List.mem_cons_of_mem _ hz)
    by_cases hy : st.1 y = true
    · rw [if_pos hy]; exact steps_ord h up f x l st hl' hc ho hlt
    · rw [if_neg hy]
      have hy' : st.1 y = false := by simpa using hy
      obtain ⟨hyn, hyx⟩ := hl y (List.mem_cons_self ..)
      have h1 := (visit_vis h f y st hyn hy' hc).1
      have hc' : cnt S.length (visit S f y st).1 ≤ f := Nat.le_trans (cnt_le (fun z hz => h1.mono hz)) hc
      refine steps_ord h up f x l _ hl' hc' (visit_ord h up f y st hyn hy' hc ho (fun z hz => ?_)) (fun z hz => ?_)
      · rcases hlt z hz with e | e
        · exact .inl e
        · exact .inr (by omega)
      · obtain ⟨n, e1, e2, _⟩ := h1.new
        rw [e1]
        rcases (e2 z).mp hz with e | e
        · rcases hlt z e with e | e
          · exact .inl (List.mem_append.mpr (.inl e))
          · exact .inr e
        · exact .inl (List.mem_append.mpr (.inr e))
end

/-! #### the order from a root -/
def none' : Sn := fun _ => false
theorem cnt_none (n : Nat) : cnt n none' = n := by
  show ((List.range n).filter (fun z => !none' z)).length = n
  rw [show (List.range n).filter (fun z => !none' z) = List.range n from List.filter_eq_self.mpr (fun _ _ => rfl), List.length_range]
def dfs (S : List (List Nat)) (r : Nat) : List Nat := (visit S S.length r (none', [])).2.reverse
theorem dfs_vis {S : List (List Nat)} (h : Gr S) {r : Nat} (hr : r < S.length) : Vis S S.length (none', []) (visit S S.length r (none', [])) ∧ (visit S S.length r (none', [])).1 r = true :=
  visit_vis h S.length r (none', []) hr rfl (Nat.le_of_eq (cnt_none _))
theorem dfs_seen {S : List (List Nat)} (h : Gr S) {r : Nat} (hr : r < S.length) (z : Nat) : z ∈ dfs S r ↔ (visit S S.length r (none', [])).1 z = true := by
  obtain ⟨l, e1, e2, _⟩ := (dfs_vis h hr).1.new
  rw [dfs, List.mem_reverse, e1, e2, List.nil_append]
  constructor
  · exact .inr
  · rintro (e | e)
    · cases e
    · exact e
theorem dfs_mem {S : List (List Nat)} (h : Gr S) {r : Nat} (hr : r < S.length) (z : Nat) : z ∈ dfs S r ↔ Rch S (-1) r z := by
  rw [dfs_seen h hr]
  constructor
  · intro hz
    rcases visit_rch r S.length r (none', []) (.base (by omega)) z hz with e | e
    · cases e
    · exact e
  · intro hz
    induction hz with
    | base _ => exact (dfs_vis h hr).2
    | @step a y _ hy _ ih =>
      rcases visit_closed h S.length r (none', []) hr rfl (Nat.le_of_eq (cnt_none _)) a ih with e | e
      · cases e
      · exact e y hy
theorem dfs_nodup {S : List (List Nat)} (h : Gr S) {r : Nat} (hr : r < S.length) : (dfs S r).Nodup := by
  obtain ⟨l, e1, _, e3, _⟩ := (dfs_vis h hr).1.new
  rw [dfs, e1, List.nil_append]
  exact (List.reverse_perm l).nodup_iff.mpr e3
theorem dfs_lt {S : List (List Nat)} (h : Gr S) {r : Nat} (hr : r < S.length) : ∀ z ∈ dfs S r, z < S.length := by
  intro z hz
  exact ((dfs_mem h hr z).mp hz).lt h hr
theorem dfs_head {S : List (List Nat)} (h : Gr S) (r : Nat) : ∃ l, dfs S r = r :: l := by
  obtain ⟨f, hf⟩ : ∃ f, S.length = f + 1 := ⟨S.length - 1, by have := h.pos; omega⟩
  refine ⟨(steps S f (S.getD r []) (upd none' r, [])).2.reverse, ?_⟩
  rw [dfs, hf, visit_succ]
  simp
theorem dfs_len {S : List (List Nat)} (h : Gr S) {r : Nat} (hr : r < S.length) : (dfs S r).length ≤ S.length := by
  obtain ⟨l, e1, _, _, _, e5⟩ := (dfs_vis h hr).1.new
  have : cnt S.length none' = S.length := cnt_none _
  have e6 : l.length + cnt S.length (visit S S.length r (none', [])).1 = cnt S.length none' := e5
  rw [dfs, e1, List.length_reverse, List.nil_append]; omega
theorem dfs_ord {S : List (List Nat)} (h : Gr S) (hup : ∀ i, ∀ y ∈ S.getD i [], i < y) {r : Nat} (hr : r < S.length) : ∀ l a t, dfs S r = t ++ a :: l → ∀ y ∈ S.getD a [], y ∈ l := by
  intro l a t e y hy
  have h1 := visit_ord h hup S.length r (none', []) hr rfl (Nat.le_of_eq (cnt_none _)) (fun l a t e => by simp at e) (fun z hz => by cases hz)
  have e2 : (visit S S.length r (none', [])).2 = l.reverse ++ a :: t.reverse := by
    have := congrArg List.reverse e
    rw [dfs, List.reverse_reverse] at this
    rw [this]; simp
  exact List.mem_reverse.mp (h1 _ _ _ e2 y hy)
end Go.Proofs.Ytokfaaemhniodaa.GP
