/- The way through blocks that go on one at the next, and round. No conditions beyond each theorem's own. -/
import Derived.Test.YtokfaaemhniodaaGDfs
namespace Go.Proofs.Ytokfaaemhniodaa.GP
/-- A way c through blocks, each going on at the next one alone, the last one nowhere new. -/
theorem visit_way {S : List (List Nat)} (c : Nat → Nat) (m : Nat) (hs : ∀ j, j + 1 < m → S.getD (c j) [] = [c (j + 1)]) (hl : ∀ j, j + 1 = m → ∀ y ∈ S.getD (c j) [], ∃ i, i < m ∧ y = c i) (hi : ∀ i j, i < m → j < m → c i = c j → i = j)
    (d : Nat) : ∀ (j f : Nat) (st : Sn × List Nat), j < m → m - j = d → d ≤ f → (∀ z, st.1 z = true ↔ ∃ i, i < j ∧ z = c i) →
    (visit S f (c j) st).2 = st.2 ++ ((List.range' j (m - j)).map c).reverse := by
  induction d with
  | zero => intro j f st hj hd; omega
  | succ d ih =>
    intro j f st hj hd hf hst
    obtain ⟨f, rfl⟩ : ∃ g, f = g + 1 := ⟨f - 1, by omega⟩
    rw [visit_succ]
    show (steps S f (S.getD (c j) []) (upd st.1 (c j), st.2)).2 ++ [c j] = _
    have hst' : ∀ z, upd st.1 (c j) z = true ↔ ∃ i, i < j + 1 ∧ z = c i := by
      intro z
      rw [upd_true, hst]
      constructor
      · rintro (e | ⟨i, h, e⟩)
        · exact ⟨j, by omega, e⟩
        · exact ⟨i, by omega, e⟩
      · rintro ⟨i, h, e⟩
        by_cases e' : i = j
        · subst e'; exact .inl e
        · exact .inr ⟨i, by omega, e⟩
    have er : m - j = (m - (j + 1)) + 1 := by omega
    rw [er, List.range'_succ, List.map_cons, List.reverse_cons, ← List.append_assoc]
    congr 1
    by_cases hm : j + 1 < m
    · rw [hs j hm, steps_cons]
      have hn : upd st.1 (c j) (c (j + 1)) ≠ true := by
        rw [ne_eq, hst']
        rintro ⟨i, h, e⟩
        have := hi (j + 1) i hm (by omega) e
        omega
      rw [if_neg hn]
      exact ih (j + 1) f (upd st.1 (c j), st.2) hm (by omega) (by omega) hst'
    · have hk : m - (j + 1) = 0 := by omega
      rw [hk]
      have hl' := hl j (by omega)
      generalize S.getD (c j) [] = l at hl'
      show (steps S f l (upd st.1 (c j), st.2)).2 = st.2 ++ []
      rw [List.append_nil]
      have : ∀ l : List Nat, (∀ y ∈ l, ∃ i, i < m ∧ y = c i) → steps S f l (upd st.1 (c j), st.2) = (upd st.1 (c j), st.2) := by
        intro l
        induction l with
        | nil => intro _; rfl
        | cons y l ihl =>
          intro hy
          obtain ⟨i, h, e⟩ := hy y (List.mem_cons_self ..)
          rw [steps_cons, if_pos (show upd st.1 (c j) y = true from (hst' y).mpr ⟨i, by omega, e⟩)]
          exact ihl (fun z hz => hy z (List.mem_cons_of_mem _ hz))
      rw [this l hl']
theorem dfs_way {S : List (List Nat)} (c : Nat → Nat) (m : Nat) (hm : 0 < m) (hmS : m ≤ S.length) (hs : ∀ j, j + 1 < m → S.getD (c j) [] = [c (j + 1)]) (hl : ∀ j, j + 1 = m → ∀ y ∈ S.getD (c j) [], ∃ i, i < m ∧ y = c i) (hi : ∀ i j, i < m → j < m → c i = c j → i = j) :
    dfs S (c 0) = (List.range m).map c := by
  unfold dfs
  rw [visit_way c m hs hl hi m 0 _ _ hm rfl (by omega) (by simp [none'])]
  simp [List.range_eq_range']
/-- Blocks that go on one at the next; round, too. -/
def line (k : Nat) (round : Bool) : List (List Nat) := (List.range k).map fun i => if i + 1 < k then [i + 1] else if round then [0] else []
@[simp] theorem line_length (k : Nat) (b : Bool) : (line k b).length = k := by simp [line]
theorem line_getD {k i : Nat} (b : Bool) (h : i < k) : (line k b).getD i [] = if i + 1 < k then [i + 1] else if b then [0] else [] := getD_map_range _ _ _ _ h
theorem line_gr {k : Nat} (b : Bool) (h0 : 0 < k) (h : k ≤ 64) : Gr (line k b) := by
  refine ⟨by simpa using h0, by simpa using h, fun i hi => ?_⟩
  rw [line_length] at hi ⊢
  rw [line_getD b hi]
  split
  · next hc => exact ⟨by simp, fun y hy => by rw [List.mem_singleton] at hy; omega⟩
  · split
    · exact ⟨by simp, fun y hy => by rw [List.mem_singleton] at hy; omega⟩
    · exact ⟨by simp, fun y hy => by simp at hy⟩
theorem mod_way {k r j : Nat} (hr : r < k) (hj : j < k) : (r + j) % k = if r + j < k then r + j else r + j - k := by
  split
  · next h => exact Nat.mod_eq_of_lt h
  · next h => rw [Nat.mod_eq_sub_mod (by omega), Nat.mod_eq_of_lt (by omega)]
theorem line_dfs_round {k r : Nat} (hr : r < k) : dfs (line k true) r = (List.range k).map (fun j => (r + j) % k) := by
  have h0 : (r + 0) % k = r := by rw [Nat.add_zero, Nat.mod_eq_of_lt hr]
  have key := dfs_way (S := line k true) (fun j => (r + j) % k) k (by omega) (by simp) ?_ ?_ ?_
  · simp only [h0] at key; exact key
  · intro j hj
    show (line k true).getD ((r + j) % k) [] = [(r + (j + 1)) % k]
    rw [line_getD true (Nat.mod_lt _ (by omega)), mod_way hr (by omega), mod_way hr hj]
    by_cases h1 : r + j < k
    · rw [if_pos h1]
      by_cases h2 : r + j + 1 < k
      · rw [if_pos h2, if_pos (by omega)]; rfl
      · rw [if_neg h2, if_pos rfl, if_neg (by omega)]; congr 1; omega
    · rw [if_neg h1, if_pos (by omega), if_neg (by omega)]; congr 1; omega
  · intro j hj y hy
    have hy' : y ∈ (line k true).getD ((r + j) % k) [] := hy
    have hyk : y < k := by
      rw [line_getD true (Nat.mod_lt _ (by omega))] at hy'
      split at hy'
      · rw [List.mem_singleton] at hy'; omega
      · rw [if_pos rfl, List.mem_singleton] at hy'; omega
    by_cases h : r ≤ y
    · refine ⟨y - r, by omega, ?_⟩
      show y = (r + (y - r)) % k
      rw [mod_way hr (by omega), if_pos (by omega)]; omega
    · refine ⟨y + k - r, by omega, ?_⟩
      show y = (r + (y + k - r)) % k
      rw [mod_way hr (by omega), if_neg (by omega)]; omega
  · intro i j hi hj e
    have e' : (r + i) % k = (r + j) % k := e
    rw [mod_way hr hi, mod_way hr hj] at e'
    split at e' <;> split at e' <;> omega
theorem line_dfs {k r : Nat} (hr : r < k) : dfs (line k false) r = (List.range (k - r)).map (fun j => (r + j) % k) := by
  have h0 : (r + 0) % k = r := by rw [Nat.add_zero, Nat.mod_eq_of_lt hr]
  have key := dfs_way (S := line k false) (fun j => (r + j) % k) (k - r) (by omega) (by simp) ?_ ?_ ?_
  · simp only [h0] at key; exact key
  · intro j hj
    show (line k false).getD ((r + j) % k) [] = [(r + (j + 1)) % k]
    rw [Nat.mod_eq_of_lt (show r + j < k by omega), Nat.mod_eq_of_lt (show r + (j + 1) < k by omega), line_getD false (by omega), if_pos (by omega)]; rfl
  · intro j hj y hy
    have hy' : y ∈ (line k false).getD ((r + j) % k) [] := hy
    rw [Nat.mod_eq_of_lt (show r + j < k by omega), line_getD false (by omega), if_neg (by omega)] at hy'
    simp at hy'
  · intro i j hi hj e
    have e' : (r + i) % k = (r + j) % k := e
    rw [mod_way hr (by omega), mod_way hr (by omega)] at e'
    split at e' <;> split at e' <;> omega
end Go.Proofs.Ytokfaaemhniodaa.GP
