/- Plain laws of dom.depth, right, in, Meet and Over for lists of any kind: ways up a tree. No conditions beyond each theorem's own. -/
import Derived.Test.YtmbkpnhmeljcgaaGb
set_option linter.unusedVariables false
set_option linter.unusedSimpArgs false
namespace Go.PrS
open Go Go.Ev Go.Proofs
def rd (l : List Int) (i : Int) : Int := l.getD i.toNat 0
theorem rd_eq (l : List Int) (i : Int) : l.getD i.toNat 0 = rd l i := rfl
/-- The way up from a place. -/
def pth (t : List Int) : Nat → Int → Option (List Int)
  | 0, _ => none
  | f + 1, a => if a < 0 ∨ (t.length : Int) ≤ a then none else if rd t a = -1 then some [a] else (pth t f (rd t a)).map (a :: ·)
abbrev way (t : List Int) (a : Int) : Option (List Int) := pth t t.length a
theorem pth_step {t : List Int} {f : Nat} {a : Int} (h0 : 0 ≤ a) (h1 : a < (t.length : Int)) (ht : rd t a ≠ -1) : pth t (f + 1) a = (pth t f (rd t a)).map (a :: ·) := by
  rw [pth, if_neg (by omega), if_neg ht]
theorem pth_top {t : List Int} {f : Nat} {a : Int} (h0 : 0 ≤ a) (h1 : a < (t.length : Int)) (ht : rd t a = -1) : pth t (f + 1) a = some [a] := by
  rw [pth, if_neg (by omega), if_pos ht]
theorem pth_out {t : List Int} {f : Nat} {a : Int} (h : a < 0 ∨ (t.length : Int) ≤ a) : pth t f a = none := by
  cases f with
  | zero => rfl
  | succ f => rw [pth, if_pos h]
theorem pth_more {t : List Int} : ∀ {f g : Nat} {a : Int} {l : List Int}, f ≤ g → pth t f a = some l → pth t g a = some l := by
  intro f
  induction f with
  | zero => intro g a l _ h; simp [pth] at h
  | succ f ih =>
    intro g a l hg h
    obtain ⟨g, rfl⟩ : ∃ m, g = m + 1 := ⟨g - 1, by omega⟩
    rw [pth] at h ⊢
    by_cases ho : a < 0 ∨ (t.length : Int) ≤ a
    · rw [if_pos ho] at h; cases h
    · rw [if_neg ho] at h ⊢
      by_cases ht : rd t a = -1
      · rw [if_pos ht] at h ⊢; exact h
      · rw [if_neg ht] at h ⊢
        cases hq : pth t f (rd t a) with
        | none => rw [hq] at h; cases h
        | some m => rw [hq] at h; rw [ih (by omega) hq]; exact h
/-- A way is cut: from each place on it it goes on. -/
theorem pth_form {t : List Int} {f : Nat} {a : Int} {l : List Int} (h : pth t f a = some l) : 0 ≤ a ∧ a < (t.length : Int) ∧ l.length ≤ f ∧
    ((rd t a = -1 ∧ l = [a]) ∨ (rd t a ≠ -1 ∧ ∃ m, l = a :: m ∧ pth t (f - 1) (rd t a) = some m)) := by
  cases f with
  | zero => simp [pth] at h
  | succ f =>
    rw [pth] at h
    by_cases ho : a < 0 ∨ (t.length : Int) ≤ a
    · rw [if_pos ho] at h; cases h
    · rw [if_neg ho] at h
      refine ⟨by omega, by omega, ?_⟩
      have key : ∀ (g : Nat) (b : Int) (m : List Int), pth t g b = some m → m.length ≤ g := by
        intro g
        induction g with
        | zero => intro b m h; simp [pth] at h
        | succ g ih =>
          intro b m h
          rw [pth] at h
          by_cases ho : b < 0 ∨ (t.length : Int) ≤ b
          · rw [if_pos ho] at h; cases h
          · rw [if_neg ho] at h
            by_cases ht : rd t b = -1
            · rw [if_pos ht] at h; cases h; simp
            · rw [if_neg ht] at h
              cases hq : pth t g (rd t b) with
              | none => rw [hq] at h; cases h
              | some m' => rw [hq] at h; cases h; have := ih _ _ hq; simp; omega
      by_cases ht : rd t a = -1
      · rw [if_pos ht] at h; cases h
        exact ⟨by simp, .inl ⟨ht, rfl⟩⟩
      · rw [if_neg ht] at h
        cases hq : pth t f (rd t a) with
        | none => rw [hq] at h; cases h
        | some m =>
          rw [hq] at h; cases h
          have := key _ _ _ hq
          exact ⟨by simp; omega, .inr ⟨ht, m, rfl, hq⟩⟩
theorem way_form {t : List Int} {a : Int} {l : List Int} (h : way t a = some l) : 0 ≤ a ∧ a < (t.length : Int) ∧ l.length ≤ t.length ∧
    ((rd t a = -1 ∧ l = [a]) ∨ (rd t a ≠ -1 ∧ ∃ m, l = a :: m ∧ way t (rd t a) = some m)) := by
  obtain ⟨h1, h2, h3, h4⟩ := pth_form h
  refine ⟨h1, h2, h3, ?_⟩
  rcases h4 with h4 | ⟨h4, m, h5, h6⟩
  · exact .inl h4
  · exact .inr ⟨h4, m, h5, pth_more (by omega) h6⟩
theorem way_mem {t : List Int} : ∀ {l : List Int} {a x : Int}, way t a = some l → x ∈ l → x = a ∨ ∃ m, way t x = some m ∧ m.length < l.length := by
  intro l
  induction l with
  | nil => intro a x _ hx; cases hx
  | cons y l ih =>
    intro a x h hx
    obtain ⟨_, _, _, h4⟩ := way_form h
    rcases h4 with ⟨_, h5⟩ | ⟨_, m, h5, h6⟩
    · cases h5; left; simpa using hx
    · cases h5
      rcases List.mem_cons.mp hx with e | e
      · exact .inl e
      · rcases ih h6 e with e' | ⟨m', h7, h8⟩
        · subst e'; exact .inr ⟨l, h6, by simp⟩
        · exact .inr ⟨m', h7, by simp; omega⟩
def dep (t : List Int) (a : Int) : Int := match way t a with | none => -1 | some l => (l.length : Int) - 1
theorem dep_neg {t : List Int} {a : Int} : dep t a < 0 ↔ way t a = none := by
  unfold dep
  cases h : way t a with
  | none => simp
  | some l =>
    have := (way_form h).2.2.2
    have h2 : 0 < l.length := by rcases this with ⟨_, e⟩ | ⟨_, m, e, _⟩ <;> rw [e] <;> simp
    simp; omega
theorem depth_l (t : List Int) (hb : t.length ≤ 1000) (d : Nat) : ∀ (i : Nat) (a : Int), t.length - i = d → i ≤ t.length →
    EvTo (fun k => dom_depth_l2 k t (t.length : Int) a (i : Int)) (match pth t d a with | none => if i = t.length then Sum.inl () else (if d = 0 then Sum.inl () else Sum.inr (-1)) | some l => Sum.inr ((i : Int) + l.length - 1)) ∨
    EvTo (fun k => dom_depth_l2 k t (t.length : Int) a (i : Int)) (Sum.inl ()) ∧ pth t d a = none := by
  induction d with
  | zero =>
    intro i a hd hi
    refine .inr ⟨EvTo.succ ?_, rfl⟩
    simp only [dom_depth_l2]
    exact EvTo.ifn (by rw [decide_eq_true_eq]; omega) EvTo.pure
  | succ d ih =>
    intro i a hd hi
    have hne : i ≠ t.length := by omega
    by_cases h0 : a < 0
    · refine .inl (EvTo.succ ?_)
      rw [pth_out (.inl h0)]
      simp only [dom_depth_l2, if_neg hne, Nat.succ_ne_zero, if_false]
      exact EvTo.ifp (decide_eq_true (by omega)) (EvTo.ifn (by rw [decide_eq_false_iff_not]; omega) EvTo.pure)
    · by_cases h1 : a ≥ (t.length : Int)
      · refine .inl (EvTo.succ ?_)
        rw [pth_out (.inr h1)]
        simp only [dom_depth_l2, if_neg hne, Nat.succ_ne_zero, if_false]
        exact EvTo.ifp (decide_eq_true (by omega)) (EvTo.ifp (decide_eq_false h0) (EvTo.ifp (decide_eq_true h1) EvTo.pure))
      · by_cases ht : rd t a = -1
        · refine .inl (EvTo.succ ?_)
          rw [pth_top (by omega) (by omega) ht]
          simp only [dom_depth_l2]
          rw [rd_eq, ht]
          exact EvTo.ifp (decide_eq_true (by omega)) (EvTo.ifp (decide_eq_false h0) (EvTo.ifn (by rw [decide_eq_true_eq]; exact h1) (EvTo.ifp (by omega) (EvTo.ifp (by simp) (EvTo.pure' (by simp))))))
        · have hstep : ∀ v, EvTo (fun k => dom_depth_l2 k t (t.length : Int) (rd t a) ((i + 1 : Nat) : Int)) v → EvTo (fun k => dom_depth_l2 k t (t.length : Int) a (i : Int)) v := fun v hv => by
            refine EvTo.succ ?_
            simp only [dom_depth_l2]
            rw [rd_eq, wrapS (show i < t.length by omega) (by omega)]
            exact EvTo.ifp (decide_eq_true (by omega)) (EvTo.ifp (decide_eq_false h0) (EvTo.ifn (by rw [decide_eq_true_eq]; exact h1) (EvTo.ifp (by omega) (EvTo.ifn (by simpa using ht) (EvTo.ifp (by omega) hv)))))
          rcases ih (i + 1) (rd t a) (by omega) (by omega) with g | ⟨g1, g2⟩
          · rw [pth_step (by omega) (by omega) ht]
            cases hp : pth t d (rd t a) with
            | none =>
              rw [hp] at g
              simp only [Option.map_none]
              by_cases hd0 : d = 0
              · subst hd0
                refine .inr ⟨hstep _ ?_, by first | rfl | trivial⟩
                have e : i + 1 = t.length := by omega
                simpa [e] using g
              · have e : i + 1 ≠ t.length := by omega
                rw [if_neg e, if_neg hd0] at g
                refine .inl (hstep _ ?_)
                simp only [if_neg hne, Nat.succ_ne_zero, if_false]
                exact g
            | some l =>
              rw [hp] at g
              refine .inl (hstep _ ?_)
              refine g.to ?_
              simp; omega
          · refine .inr ⟨hstep _ g1, ?_⟩
            rw [pth_step (by omega) (by omega) ht, g2]; rfl
theorem depth_ok (t : List Int) (hb : t.length ≤ 1000) (a : Int) : EvTo (fun k => dom_depth k t a) (dep t a) := by
  unfold dom_depth
  rcases depth_l t hb t.length 0 a (by omega) (by omega) with g | ⟨g1, g2⟩
  · unfold dep way
    cases hp : pth t t.length a with
    | none =>
      rw [hp] at g
      by_cases h0 : t.length = 0
      · simp only [h0, if_true] at g
        simp only [h0]
        exact EvTo.bind g EvTo.pure
      · simp only [h0, if_false, if_neg (fun e : 0 = t.length => h0 e.symm)] at g
        exact EvTo.bind g EvTo.pure
    | some l =>
      rw [hp] at g
      exact EvTo.bind g (EvTo.pure' (by simp))
  · refine EvTo.bind g1 ?_
    unfold dep way
    rw [g2]
    exact EvTo.pure
/-- Whether all from i on come to the top, and the tops are one with those that are told. -/
def rgo (t : List Int) : Nat → Nat → Int → Bool
  | 0, _, tops => tops == 1
  | d + 1, i, tops => if rd t (i : Int) ≠ -2 ∧ way t (i : Int) = none then false else rgo t d (i + 1) (if rd t (i : Int) = -1 then tops + 1 else tops)
abbrev rgt (t : List Int) : Bool := rgo t t.length 0 0
theorem right_l (t : List Int) (hb : t.length ≤ 1000) (d : Nat) : ∀ (i : Nat) (tops : Int), t.length - i = d → i ≤ t.length → 0 ≤ tops → tops ≤ i →
    ∃ v : Sum Int Bool, EvTo (fun k => dom_right_l3 k t t (t.length : Int) tops (i : Int)) v ∧ (match v with | .inl n => (n == 1) = rgo t d i tops | .inr b => b = rgo t d i tops) := by
  induction d with
  | zero =>
    intro i tops hd hi _ _
    refine ⟨.inl tops, EvTo.succ ?_, rfl⟩
    simp only [dom_right_l3]
    exact EvTo.ifn (by rw [decide_eq_true_eq]; omega) EvTo.pure
  | succ d ih =>
    intro i tops hd hi h0 h1
    have hwt : IntKind.wrap .i64 (tops + 1) = tops + 1 := wrap_i64 (by omega) (by omega)
    have hw1 : IntKind.wrap .i64 ((i : Int) + 1) = ((i + 1 : Nat) : Int) := wrapS (show i < t.length by omega) (by omega)
    rw [rgo]
    by_cases e2 : rd t (i : Int) = -2
    · rw [if_neg (fun h => h.1 e2), if_neg (by omega)]
      obtain ⟨v, g1, g2⟩ := ih (i + 1) tops (by omega) (by omega) h0 (by omega)
      refine ⟨v, EvTo.succ ?_, g2⟩
      simp only [dom_right_l3]
      rw [rd_eq, hw1, e2]
      exact EvTo.ifp (decide_eq_true (by omega)) (EvTo.ifp (by omega) (EvTo.ifn (by simp) (EvTo.ifn (by simp) g1)))
    · by_cases hw : way t (i : Int) = none
      · rw [if_pos ⟨e2, hw⟩]
        refine ⟨.inr false, EvTo.succ ?_, rfl⟩
        simp only [dom_right_l3]
        rw [rd_eq, hw1, hwt]
        refine EvTo.ifp (decide_eq_true (by omega)) (EvTo.ifp (by omega) ?_)
        have hd2 := dep_neg.mpr hw
        by_cases e1 : rd t (i : Int) = -1
        · exact EvTo.ifp (by simpa using e1) (EvTo.ifp (by simpa using e2) (EvTo.bind (depth_ok t hb _) (EvTo.ifp (decide_eq_true hd2) EvTo.pure)))
        · exact EvTo.ifn (by simpa using e1) (EvTo.ifp (by simpa using e2) (EvTo.bind (depth_ok t hb _) (EvTo.ifp (decide_eq_true hd2) EvTo.pure)))
      · rw [if_neg (fun h => hw h.2)]
        have hd2 : ¬ dep t (i : Int) < 0 := fun h => hw (dep_neg.mp h)
        obtain ⟨v, g1, g2⟩ := ih (i + 1) (if rd t (i : Int) = -1 then tops + 1 else tops) (by omega) (by omega) (by split <;> omega) (by split <;> omega)
        refine ⟨v, EvTo.succ ?_, g2⟩
        simp only [dom_right_l3]
        rw [rd_eq, hw1, hwt]
        refine EvTo.ifp (decide_eq_true (by omega)) (EvTo.ifp (by omega) ?_)
        by_cases e1 : rd t (i : Int) = -1
        · rw [if_pos e1] at g1
          exact EvTo.ifp (by simpa using e1) (EvTo.ifp (by simpa using e2) (EvTo.bind (depth_ok t hb _) (EvTo.ifn (by rw [decide_eq_true_eq]; exact hd2) g1)))
        · rw [if_neg e1] at g1
          exact EvTo.ifn (by simpa using e1) (EvTo.ifp (by simpa using e2) (EvTo.bind (depth_ok t hb _) (EvTo.ifn (by rw [decide_eq_true_eq]; exact hd2) g1)))
theorem right_ok (t : List Int) (hb : t.length ≤ 1000) : EvTo (fun k => dom_right k t) (rgt t) := by
  unfold dom_right
  obtain ⟨v, g1, g2⟩ := right_l t hb t.length 0 0 (by omega) (by omega) (by omega) (by omega)
  refine EvTo.bind g1 ?_
  cases v with
  | inl n => exact EvTo.pure' g2
  | inr b => exact EvTo.pure' g2
theorem rgo_le {t : List Int} : ∀ (d i : Nat) (tops : Int), rgo t d i tops = true → tops ≤ 1 := by
  intro d
  induction d with
  | zero => intro i tops h; simp [rgo] at h; omega
  | succ d ih =>
    intro i tops h
    rw [rgo] at h
    split at h
    · cases h
    · have := ih _ _ h; split at this <;> omega
theorem rgo_top {t : List Int} : ∀ (d i : Nat) (tops : Int), rgo t d i tops = true → ∀ a, i ≤ a → a < i + d → rd t (a : Int) = -1 → tops ≤ 0 := by
  intro d
  induction d with
  | zero => intro i tops h a h1 h2; omega
  | succ d ih =>
    intro i tops h a h1 h2 ha
    rw [rgo] at h
    split at h
    · cases h
    · by_cases e : a = i
      · subst e; rw [if_pos ha] at h; have := rgo_le _ _ _ h; omega
      · have := ih _ _ h a (by omega) (by omega) ha; split at this <;> omega
theorem rgo_one {t : List Int} : ∀ (d i : Nat) (tops : Int), rgo t d i tops = true → 0 ≤ tops → ∀ a b, i ≤ a → a < b → b < i + d → rd t (a : Int) = -1 → rd t (b : Int) = -1 → False := by
  intro d
  induction d with
  | zero => intro i tops h _ a b h1 h2 h3; omega
  | succ d ih =>
    intro i tops h h0 a b h1 h2 h3 ha hb
    rw [rgo] at h
    split at h
    · cases h
    · by_cases e : a = i
      · subst e; rw [if_pos ha] at h; have := rgo_top _ _ _ h b (by omega) (by omega) hb; omega
      · exact ih _ _ h (by split <;> omega) a b (by omega) h2 (by omega) ha hb
theorem rgt_one {t : List Int} (h : rgt t = true) {a b : Int} (ha0 : 0 ≤ a) (ha1 : a < (t.length : Int)) (hb0 : 0 ≤ b) (hb1 : b < (t.length : Int)) (ha : rd t a = -1) (hb : rd t b = -1) : a = b := by
  obtain ⟨x, rfl⟩ : ∃ x : Nat, a = (x : Int) := ⟨a.toNat, by omega⟩
  obtain ⟨y, rfl⟩ : ∃ y : Nat, b = (y : Int) := ⟨b.toNat, by omega⟩
  by_cases e : x = y
  · rw [e]
  · exfalso
    by_cases l : x < y
    · exact rgo_one _ _ _ h (by omega) x y (by omega) l (by omega) ha hb
    · exact rgo_one _ _ _ h (by omega) y x (by omega) (by omega) (by omega) hb ha
/-- slices.IndexFunc at a function that captures something -/
theorem index_capG {α : Type} (l : List α) (g : Nat → α → List Int → Option (Bool × List Int)) (p : α → Bool) (d : α) (c : List Int) (F : Nat → (List Int × Unit) → Int → Option (Sum (List Int × Unit) (Int × (List Int × Unit)))) (hlen : l.length ≤ reachBytes)
    (hF : ∀ k i, F (k + 1) (c, ()) i = if (decide (i < (l.length : Int)) = true) then if ((0 ≤ i) ∧ (i < (l.length : Int))) then (g k (l.getD i.toNat d) c).bind fun r0 => if (r0.1 = true) then some (.inr (i, r0.2, ())) else F k (r0.2, ()) (IntKind.wrap .i64 (i + 1)) else none else some (.inl (c, ())))
    (hg : ∀ x ∈ l, EvTo (fun k => g k x c) (p x, c)) : EvTo (fun k => (F k (c, ()) 0).bind fun r0 => match r0 with | .inl r1 => some ((-1 : Int), r1) | .inr r1 => some r1) (match l.findIdx? p with | none => (-1, c, ()) | some j => ((j : Int), c, ())) := by
  have hm := reach_le
  have key : EvTo (fun k => F k (c, ()) 0) ((fun (i : Nat) (r : List α) => match r.findIdx? p with | none => Sum.inl (c, ()) | some j => Sum.inr (((i + j : Nat) : Int), c, ())) 0 l) := by
    refine EvTo.range0 l (fun k i => F k (c, ()) (i : Int)) (fun (i : Nat) (r : List α) => match r.findIdx? p with | none => Sum.inl (c, ()) | some j => Sum.inr (((i + j : Nat) : Int), c, ())) ?_ ?_
    · refine EvTo.succ ?_
      simp only [hF]
      exact EvTo.ifn (by simp) EvTo.pure
    · intro i h ih
      refine EvTo.succ ?_
      simp only [hF]
      refine EvTo.ifp (by simpa using h) (EvTo.ifp (by omega) ?_)
      rw [getI h]
      refine EvTo.bind (hg _ (List.getElem_mem h)) ?_
      cases hp : p l[i] with
      | true =>
        refine EvTo.ifp rfl (EvTo.pure' ?_)
        simp only [List.findIdx?_cons, hp, if_true]
        rfl
      | false =>
        refine EvTo.ifn (by simp) ?_
        rw [wrapS h (by omega)]
        refine ih.to ?_
        simp only [List.findIdx?_cons, hp, Bool.false_eq_true, if_false]
        cases (l.drop (i + 1)).findIdx? p with
        | none => rfl
        | some j => simp only [Option.map_some]; congr 2; omega
  refine EvTo.bind key ?_
  simp only
  cases l.findIdx? p with
  | none => exact EvTo.pure
  | some j => exact EvTo.pure' (by simp)
theorem foundG {α γ : Type} (l : List α) (p : α → Bool) (c : γ) : (decide ((match l.findIdx? p with | none => ((-1 : Int), c, ()) | some j => ((j : Int), c, ())).1 ≥ 0), (match l.findIdx? p with | none => ((-1 : Int), c, ()) | some j => ((j : Int), c, ())).2) = (l.any p, c, ()) := by
  cases hf : l.findIdx? p with
  | none =>
    rw [List.findIdx?_eq_none_iff] at hf
    have : l.any p = false := by
      rw [List.any_eq_false]
      intro x hx
      simp [hf x hx]
    simp [this]
  | some j =>
    rw [List.findIdx?_eq_some_iff_getElem] at hf
    obtain ⟨hj, hp, _⟩ := hf
    have : l.any p = true := List.any_eq_true.2 ⟨_, List.getElem_mem hj, hp⟩
    simp [this]
def inT (t : List Int) (l : List Int) : Bool := rgt t && l.all (fun a => (way t a).isSome)
theorem in1_ok (t : List Int) (hb : t.length ≤ 1000) (a : Int) : EvTo (fun k => dom_in_1 k a t) ((way t a).isNone, t) := by
  unfold dom_in_1
  refine EvTo.bind (depth_ok t hb a) (EvTo.pure' ?_)
  cases hw : way t a with
  | none => rw [decide_eq_true (dep_neg.mpr hw)]; rfl
  | some m => rw [decide_eq_false (fun h => by rw [dep_neg.mp h] at hw; cases hw)]; rfl
theorem in_ok (t : List Int) (hb : t.length ≤ 1000) (l : List Int) (hl : l.length ≤ 1000) : EvTo (fun k => dom_in k t l) (inT t l) := by
  have hm : (1000 : Nat) ≤ reachBytes := by decide
  unfold dom_in inT
  refine EvTo.bind (right_ok t hb) ?_
  cases hr : rgt t with
  | false => exact EvTo.ifn (by simp) EvTo.pure
  | true =>
    refine EvTo.ifp rfl (EvTo.bind (a := (l.any (fun a => (way t a).isNone), t, ())) ?_ (EvTo.pure' ?_))
    · unfold slices_ContainsFunc_int_int_dom_in_1 slices_IndexFunc_int_int_dom_in_1
      refine EvTo.bind (index_capG l dom_in_1 (fun a => (way t a).isNone) 0 t (fun k t1 i => slices_IndexFunc_int_int_dom_in_1_l2 k l t1 (l.length : Int) i) (by omega) (fun k i => by simp only [slices_IndexFunc_int_int_dom_in_1_l2]) (fun x hx => in1_ok t hb x)) ?_
      exact EvTo.pure' (foundG l (fun a => (way t a).isNone) t)
    · rw [Bool.true_and, List.not_any_eq_all_not]
      congr 1
      funext a
      cases way t a <;> rfl
/-- The first of a list that lies in another one; -2: none. -/
def fst2 (p q : List Int) : Int := (p.find? (fun x => decide (x ∈ q))).getD (-2)
def meetT (t : List Int) (a b : Int) : Int := if rgt t = true then match way t a, way t b with | some p, some q => fst2 p q | _, _ => -2 else -2
theorem Meet_l (t : List Int) (hb : t.length ≤ 1000) (hr : rgt t = true) : ∀ (m : Nat) (p q : List Int) (a b : Int), p.length + q.length ≤ m → way t a = some p → way t b = some q → EvTo (fun k => dom_Meet_l3 k t a b) (fst2 p q) := by
  intro m
  induction m with
  | zero =>
    intro p q a b hm hp hq
    have h := (way_form hp).2.2.2
    rcases h with ⟨_, e⟩ | ⟨_, _, e, _⟩ <;> rw [e] at hm <;> simp at hm
  | succ m ih =>
    intro p q a b hm hp hq
    obtain ⟨pa0, pa1, pa2, pa3⟩ := way_form hp
    obtain ⟨qa0, qa1, qa2, qa3⟩ := way_form hq
    have hpd : dep t a = (p.length : Int) - 1 := by unfold dep; rw [hp]
    have hqd : dep t b = (q.length : Int) - 1 := by unfold dep; rw [hq]
    refine EvTo.succ ?_; simp only [dom_Meet_l3]; rw [rd_eq, rd_eq]
    by_cases hab : a = b
    · refine EvTo.ifn (by simp [hab]) (EvTo.pure' ?_)
      subst hab
      rw [hp] at hq; cases hq
      rcases pa3 with ⟨_, e⟩ | ⟨_, _, e, _⟩ <;> rw [e] <;> simp [fst2]
    · refine EvTo.ifp (by simpa using hab) (EvTo.bind (depth_ok t hb a) (EvTo.bind (depth_ok t hb b) ?_))
      rw [hpd, hqd]
      by_cases hge : (p.length : Int) - 1 ≥ (q.length : Int) - 1
      · refine EvTo.ifp (decide_eq_true hge) (EvTo.ifp (by omega) ?_)
        rcases pa3 with ⟨ht, e⟩ | ⟨_, p', e, hp'⟩
        · rw [e] at hge
          rcases qa3 with ⟨ht', e'⟩ | ⟨_, q', e', hq'⟩
          · exact absurd (rgt_one hr pa0 pa1 qa0 qa1 ht ht') hab
          · exfalso
            have h := (way_form hq').2.2.2
            rw [e'] at hge
            rcases h with ⟨_, e''⟩ | ⟨_, _, e'', _⟩ <;> rw [e''] at hge <;> simp at hge <;> omega
        · have hnot : ¬ a ∈ q := by
            intro hm'
            rcases way_mem hq hm' with e'' | ⟨m', h7, h8⟩
            · exact hab e''
            · rw [hp] at h7; cases h7; omega
          rw [e] at hm ⊢
          refine (ih p' q (rd t a) b (by simp at hm; omega) hp' hq).to ?_
          unfold fst2
          rw [List.find?_cons_of_neg (by simpa using hnot)]
      · refine EvTo.ifn (by rw [decide_eq_true_eq]; exact hge) (EvTo.ifp (by omega) ?_)
        rcases qa3 with ⟨ht, e⟩ | ⟨_, q', e, hq'⟩
        · exfalso
          rw [e] at hge
          rcases pa3 with ⟨_, e'⟩ | ⟨_, _, e', _⟩ <;> rw [e'] at hge <;> simp at hge <;> omega
        · have hnot : ¬ b ∈ p := by
            intro hm'
            rcases way_mem hp hm' with e'' | ⟨m', h7, h8⟩
            · exact hab e''.symm
            · rw [hq] at h7; cases h7; omega
          rw [e] at hm ⊢
          refine (ih p q' a (rd t b) (by simp at hm; omega) hp hq').to ?_
          unfold fst2
          congr 1
          have : ∀ l : List Int, (∀ x ∈ l, x ∈ p) → l.find? (fun x => decide (x ∈ q')) = l.find? (fun x => decide (x ∈ b :: q')) := by
            intro l
            induction l with
            | nil => intro _; rfl
            | cons x l ih2 =>
              intro hl
              have hx : x ≠ b := fun e => hnot (e ▸ hl x (List.mem_cons_self ..))
              have e3 : decide (x ∈ b :: q') = decide (x ∈ q') := by simp [hx]
              rw [List.find?_cons, List.find?_cons, e3, ih2 (fun y hy => hl y (List.mem_cons_of_mem _ hy))]
          exact this p (fun _ h => h)
theorem inT_two {t : List Int} {a b : Int} : inT t [a, b] = true ↔ rgt t = true ∧ (∃ p, way t a = some p) ∧ ∃ q, way t b = some q := by
  unfold inT
  simp [Option.isSome_iff_exists]
theorem inT_one {t : List Int} {a : Int} : inT t [a] = true ↔ rgt t = true ∧ ∃ p, way t a = some p := by
  unfold inT
  simp [Option.isSome_iff_exists]
theorem Meet_ok (t : List Int) (hb : t.length ≤ 1000) (a b : Int) : EvTo (fun k => dom_Meet k t a b) (meetT t a b) := by
  unfold dom_Meet meetT
  refine EvTo.bind (in_ok t hb _ (by simp)) ?_
  by_cases h : inT t [a, b] = true
  · obtain ⟨hr, ⟨p, hp⟩, q, hq⟩ := inT_two.mp h
    refine EvTo.ifn (by simp [h]) ?_
    rw [if_pos hr, hp, hq]
    exact EvTo.bind (Meet_l t hb hr _ p q a b (Nat.le_refl _) hp hq) EvTo.pure
  · refine EvTo.ifp (by simpa using h) (EvTo.pure' ?_)
    by_cases hr : rgt t = true
    · rw [if_pos hr]
      cases hp : way t a with
      | none => rfl
      | some p => cases hq : way t b with
        | none => rfl
        | some q => exact absurd (inT_two.mpr ⟨hr, ⟨p, hp⟩, q, hq⟩) h
    · rw [if_neg hr]
def overT (t : List Int) (a b : Int) : Bool := inT t [a, b] && (meetT t a b == a)
theorem over_ok (t : List Int) (hb : t.length ≤ 1000) (a b : Int) : EvTo (fun k => dom_Over k t a b) (overT t a b) := by
  unfold dom_Over overT
  refine EvTo.bind (in_ok t hb _ (by simp)) ?_
  cases h : inT t [a, b] with
  | false => exact EvTo.ifn (by simp) EvTo.pure
  | true => exact EvTo.ifp rfl (EvTo.bind (Meet_ok t hb a b) EvTo.pure)
/-- Whose entry one is, from i on. -/
def kdT (t : List Int) (a : Int) (i : Nat) : List Int := ((List.range t.length).drop i).filterMap (fun b => if rd t ((b : Nat) : Int) = a then some ((b : Nat) : Int) else none)
theorem kdT_end (t : List Int) (a : Int) (i : Nat) (h : t.length ≤ i) : kdT t a i = [] := by unfold kdT; rw [List.drop_of_length_le (by simpa using h)]; rfl
theorem kdT_step (t : List Int) (a : Int) (i : Nat) (h : i < t.length) : kdT t a i = (if rd t (i : Int) = a then [(i : Int)] else []) ++ kdT t a (i + 1) := by
  unfold kdT
  rw [drop_getD (List.range t.length) i 0 (by simpa using h), List.filterMap_cons, List.getD_eq_getElem?_getD, List.getElem?_range h, Option.getD_some]
  split <;> rename_i e <;> split at e <;> simp_all
def kidsT (t : List Int) (a : Int) : List Int := if inT t [a] = true then kdT t a 0 else []
end Go.PrS
