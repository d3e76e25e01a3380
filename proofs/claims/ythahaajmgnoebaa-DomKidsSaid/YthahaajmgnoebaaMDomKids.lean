/- Texts of this session, joined by wip/tools/merge.py. Conditions: each theorem's own. -/
import Derived.Test.YthahaajmgnoebaaMDomKidsb
import Derived.Test.YthahaajmgnoebaaGx15
import Derived.Test.YthahaajmgnoebaaGx16
import Derived.Test.YthahaajmgnoebaaGx18
import Derived.Test.YthahaajmgnoebaaGx19
import Derived.Test.YthahaajmgnoebaaGx20
import Derived.Test.YthahaajmgnoebaaGx21
import Derived.Test.YthahaajmgnoebaaGx0
import Derived.Test.YthahaajmgnoebaaGx22
import Derived.Test.YthahaajmgnoebaaHRows
import Derived.Test.YthahaajmgnoebaaRows
import Derived.WalkKit
import Derived.ProofKit
import Derived.OpenShut
import Derived.ShutString
import Derived.ChangeOld
import Derived.Below
import Derived.SizedLaws
import Derived.Test.YthahaajmgnoebaaWSized
namespace Go.Proofs.Ythahaajmgnoebaa.GP
open Go.RowKit Go.Proofs.Ythahaajmgnoebaa.G Go.Proofs.YthahaajmgnoebaaW.PrintWords

/-- The way up from a place. -/
def pth (t : List Int) : Nat → Int → Option (List Int)
  | 0, _ => none
  | f + 1, a => if a < 0 ∨ (t.length : Int) ≤ a then none else if rd t a = -1 then some [a] else (pth t f (rd t a)).map (a :: ·)
abbrev way (t : List Int) (a : Int) : Option (List Int) := pth t t.length a
theorem pth_step {t : List Int} {f : Nat} {a : Int} (h0 : 0 ≤ a) (h1 : a < (t.length : Int)) (ht : rd t a ≠ -1) : pth t (f + 1) a = (pth t f (rd t a)).map (a :: ·) := by
  rw [pth, if_neg (by omega), if_neg ht]
theorem pth_top {t : List Int} {f : Nat} {a : Int} (h0 : 0 ≤ a) (h1 : a < (t.length : Int)) (ht : rd t a = -1) : pth t (f + 1) a = some [a] := by
  rw [pth, if_neg (by omega), if_pos ht]
theorem pth_out {t : List Int} {f : Nat} {a : Int} (h : a < 0 ∨ (t.length : Int) ≤ a) : pth t f a = none := by
  cases f with
  | zero => rfl
  | succ f => rw [pth, if_pos h]
theorem pth_more {t : List Int} : ∀ {f g : Nat} {a : Int} {l : List Int}, f ≤ g → pth t f a = some l → pth t g a = some l := by
  intro f
  induction f with
  | zero => intro g a l _ h; simp [pth] at h
  | succ f ih =>
    intro g a l hg h
    obtain ⟨g, rfl⟩ : ∃ m, g = m + 1 := ⟨g - 1, by omega⟩
    rw [pth] at h ⊢
    by_cases ho : a < 0 ∨ (t.length : Int) ≤ a
    · rw [if_pos ho] at h; cases h
    · rw [if_neg ho] at h ⊢
      by_cases ht : rd t a = -1
      · rw [if_pos ht] at h ⊢; exact h
      · rw [if_neg ht] at h ⊢
        cases hq : pth t f (rd t a) with
        | none => rw [hq] at h; cases h
        | some m => rw [hq] at h; rw [ih (by omega) hq]; exact h
/-- A way is cut: from each place on it it goes on. -/
theorem pth_form {t : List Int} {f : Nat} {a : Int} {l : List Int} (h : pth t f a = some l) : 0 ≤ a ∧ a < (t.length : Int) ∧ l.length ≤ f ∧
    ((rd t a = -1 ∧ l = [a]) ∨ (rd t a ≠ -1 ∧ ∃ m, l = a :: m ∧ pth t (f - 1) (rd t a) = some m)) := by
  cases f with
  | zero => simp [pth] at h
  | succ f =>
    rw [pth] at h
    by_cases ho : a < 0 ∨ (t.length : Int) ≤ a
    · rw [if_pos ho] at h; cases h
    · rw [if_neg ho] at h
      refine ⟨by omega, by omega, ?_⟩
      have key : ∀ (g : Nat) (b : Int) (m : List Int), pth t g b = some m → m.length ≤ g := by
        intro g
        induction g with
        | zero => intro b m h; simp [pth] at h
        | succ g ih =>
          intro b m h
          rw [pth] at h
          by_cases ho : b < 0 ∨ (t.length : Int) ≤ b
          · rw [if_pos ho] at h; cases h
          · rw [if_neg ho] at h
            by_cases ht : rd t b = -1
            · rw [if_pos ht] at h; cases h; simp
            · rw [if_neg ht] at h
              cases hq : pth t g (rd t b) with
              | none => rw [hq] at h; cases h
              | some m' => rw [hq] at h; cases h; have := ih _ _ hq; simp; omega
      by_cases ht : rd t a = -1
      · rw [if_pos ht] at h; cases h
        exact ⟨by simp, .inl ⟨ht, rfl⟩⟩
      · rw [if_neg ht] at h
        cases hq : pth t f (rd t a) with
        | none => rw [hq] at h; cases h
        | some m =>
          rw [hq] at h; cases h
          have := key _ _ _ hq
          exact ⟨by simp; omega, .inr ⟨ht, m, rfl, hq⟩⟩
theorem way_form {t : List Int} {a : Int} {l : List Int} (h : way t a = some l) : 0 ≤ a ∧ a < (t.length : Int) ∧ l.length ≤ t.length ∧
    ((rd t a = -1 ∧ l = [a]) ∨ (rd t a ≠ -1 ∧ ∃ m, l = a :: m ∧ way t (rd t a) = some m)) := by
  obtain ⟨h1, h2, h3, h4⟩ := pth_form h
  refine ⟨h1, h2, h3, ?_⟩
  rcases h4 with h4 | ⟨h4, m, h5, h6⟩
  · exact .inl h4
  · exact .inr ⟨h4, m, h5, pth_more (by omega) h6⟩
theorem way_mem {t : List Int} : ∀ {l : List Int} {a x : Int}, way t a = some l → x ∈ l → x = a ∨ ∃ m, way t x = some m ∧ m.length < l.length := by
  intro l
  induction l with
  | nil => intro a x _ hx; cases hx
  | cons y l ih =>
    intro a x h hx
    obtain ⟨_, _, _, h4⟩ := way_form h
    rcases h4 with ⟨_, h5⟩ | ⟨_, m, h5, h6⟩
    · cases h5; left; simpa using hx
    · cases h5
      rcases List.mem_cons.mp hx with e | e
      · exact .inl e
      · rcases ih h6 e with e' | ⟨m', h7, h8⟩
        · subst e'; exact .inr ⟨l, h6, by simp⟩
        · exact .inr ⟨m', h7, by simp; omega⟩

/-! #### how far down -/
def dep (t : List Int) (a : Int) : Int := match way t a with | none => -1 | some l => (l.length : Int) - 1
theorem depth_l0 (t : List Int) (hb : t.length ≤ 1000) (d : Nat) : ∀ (i : Nat) (a : Int), t.length - i = d → i ≤ t.length →
    Ev (fun k => dom_depth.l0 k t a (t.length : Int) (i : Int)) (match pth t d a with | none => -1 | some l => (i : Int) + l.length - 1) := by
  induction d with
  | zero =>
    intro i a hd hi
    refine Ev.succ ?_; simp only [dom_depth.l0]
    exact Ev.ifn (by omega) (Ev.pure.of_eq (by simp [pth]))
  | succ d ih =>
    intro i a hd hi
    refine Ev.succ ?_; simp only [dom_depth.l0]
    refine Ev.ifp (by omega) ?_
    have hout : a < 0 ∨ (t.length : Int) ≤ a → Ev (fun k => dom_depth.j1 k t a (i : Int) (t.length : Int) (i : Int) true) (match pth t (d + 1) a with | none => -1 | some l => (i : Int) + l.length - 1) := by
      intro ho
      rw [pth_out ho]
      refine Ev.succ ?_; simp only [dom_depth.j1]
      exact Ev.ifp trivial Ev.pure
    by_cases h0 : a < 0
    · exact Ev.ifp h0 (hout (.inl h0))
    · refine Ev.ifn h0 ?_
      by_cases h1 : a ≥ (t.length : Int)
      · rw [decide_eq_true h1]; exact hout (.inr h1)
      · rw [decide_eq_false h1]
        refine Ev.succ ?_; simp only [dom_depth.j1]
        refine Ev.ifn (by decide) (Ev.ifp (by omega) (Ev.ifp (by omega) ?_))
        by_cases ht : rd t a = -1
        · refine Ev.ifp ht (Ev.pure.of_eq ?_)
          rw [pth_top (by omega) (by omega) ht]; simp
        · refine Ev.ifn ht ?_
          rw [wrap_nat (by omega)]
          refine (ih (i + 1) (rd t a) (by omega) (by omega)).of_eq ?_
          rw [pth_step (by omega) (by omega) ht]
          cases pth t d (rd t a) with
          | none => rfl
          | some l => simp; omega
theorem depth_ok (t : List Int) (hb : t.length ≤ 1000) (a : Int) : Ev (fun k => dom_depth.f k t a) (dep t a) := by
  unfold dom_depth.f
  refine (depth_l0 t hb t.length 0 a (by omega) (by omega)).of_eq ?_
  unfold dep way
  cases pth t t.length a <;> simp
theorem dep_neg {t : List Int} {a : Int} : dep t a < 0 ↔ way t a = none := by
  unfold dep
  cases h : way t a with
  | none => simp
  | some l =>
    have := (way_form h).2.2.2
    have h2 : 0 < l.length := by rcases this with ⟨_, e⟩ | ⟨_, m, e, _⟩ <;> rw [e] <;> simp
    simp; omega

/-! #### trees -/
/-- Whether all from i on come to the top, and the tops are one with those that are told. -/
def rgo (t : List Int) : Nat → Nat → Int → Bool
  | 0, _, tops => tops == 1
  | d + 1, i, tops => if rd t (i : Int) ≠ -2 ∧ way t (i : Int) = none then false else rgo t d (i + 1) (if rd t (i : Int) = -1 then tops + 1 else tops)
abbrev rgt (t : List Int) : Bool := rgo t t.length 0 0
theorem right_l0 (t : List Int) (hb : t.length ≤ 1000) (d : Nat) : ∀ (i : Nat) (tops : Int), t.length - i = d → i ≤ t.length → 0 ≤ tops → tops ≤ i →
    Ev (fun k => dom_right.l0 k t tops t (t.length : Int) (i : Int)) (rgo t d i tops) := by
  induction d with
  | zero =>
    intro i tops hd hi _ _
    refine Ev.succ ?_; simp only [dom_right.l0]
    exact Ev.ifn (by omega) (Ev.pure.of_eq rfl)
  | succ d ih =>
    intro i tops hd hi h0 h1
    have hwt : wrap64 (tops + 1) = tops + 1 := wrap_id (by omega) (by omega)
    refine Ev.succ ?_; simp only [dom_right.l0]
    refine Ev.ifp (by omega) (Ev.ifp (by omega) (Ev.ifp (by omega) ?_))
    rw [wrap_nat (by omega), hwt, rgo]
    have hcall : ∀ (tops' : Int), rd t (i : Int) ≠ -2 → 0 ≤ tops' → tops' ≤ ((i + 1 : Nat) : Int) → Ev (fun k => (dom_depth.f k t (i : Int)).bind fun t1 => (if t1 < 0 then (some false) else (dom_right.l0 k t tops' t (t.length : Int) ((i + 1 : Nat) : Int)))) (if rd t (i : Int) ≠ -2 ∧ way t (i : Int) = none then false else rgo t d (i + 1) tops') := by
      intro tops' h2 g0 g1
      refine Ev.bind (depth_ok t hb _) ?_
      by_cases hw : way t (i : Int) = none
      · rw [if_pos ⟨h2, hw⟩]; exact Ev.ifp (dep_neg.mpr hw) Ev.pure
      · rw [if_neg (fun h => hw h.2)]; exact Ev.ifn (fun h => hw (dep_neg.mp h)) (ih (i + 1) tops' (by omega) (by omega) g0 g1)
    by_cases e1 : rd t (i : Int) = -1
    · rw [if_pos e1]
      refine Ev.ifp e1 (Ev.ifn (by omega) ?_)
      exact hcall (tops + 1) (by omega) (by omega) (by omega)
    · rw [if_neg e1]
      refine Ev.ifn e1 ?_
      by_cases e2 : rd t (i : Int) = -2
      · rw [if_neg (fun h => h.1 e2)]
        exact Ev.ifp e2 (ih (i + 1) tops (by omega) (by omega) h0 (by omega))
      · exact Ev.ifn e2 (hcall tops e2 h0 (by omega))
theorem right_ok (t : List Int) (hb : t.length ≤ 1000) : Ev (fun k => dom_right.f k t) (rgt t) := by
  unfold dom_right.f
  exact right_l0 t hb t.length 0 0 (by omega) (by omega) (by omega) (by omega)
theorem rgo_le {t : List Int} : ∀ (d i : Nat) (tops : Int), rgo t d i tops = true → tops ≤ 1 := by
  intro d
  induction d with
  | zero => intro i tops h; simp [rgo] at h; omega
  | succ d ih =>
    intro i tops h
    rw [rgo] at h
    split at h
    · cases h
    · have := ih _ _ h; split at this <;> omega
theorem rgo_top {t : List Int} : ∀ (d i : Nat) (tops : Int), rgo t d i tops = true → ∀ a, i ≤ a → a < i + d → rd t (a : Int) = -1 → tops ≤ 0 := by
  intro d
  induction d with
  | zero => intro i tops h a h1 h2; omega
  | succ d ih =>
    intro i tops h a h1 h2 ha
    rw [rgo] at h
    split at h
    · cases h
    · by_cases e : a = i
      · subst e; rw [if_pos ha] at h; have := rgo_le _ _ _ h; omega
      · have := ih _ _ h a (by omega) (by omega) ha; split at this <;> omega
theorem rgo_one {t : List Int} : ∀ (d i : Nat) (tops : Int), rgo t d i tops = true → 0 ≤ tops → ∀ a b, i ≤ a → a < b → b < i + d → rd t (a : Int) = -1 → rd t (b : Int) = -1 → False := by
  intro d
  induction d with
  | zero => intro i tops h _ a b h1 h2 h3; omega
  | succ d ih =>
    intro i tops h h0 a b h1 h2 h3 ha hb
    rw [rgo] at h
    split at h
    · cases h
    · by_cases e : a = i
      · subst e; rw [if_pos ha] at h; have := rgo_top _ _ _ h b (by omega) (by omega) hb; omega
      · exact ih _ _ h (by split <;> omega) a b (by omega) h2 (by omega) ha hb
theorem rgt_one {t : List Int} (h : rgt t = true) {a b : Int} (ha0 : 0 ≤ a) (ha1 : a < (t.length : Int)) (hb0 : 0 ≤ b) (hb1 : b < (t.length : Int)) (ha : rd t a = -1) (hb : rd t b = -1) : a = b := by
  obtain ⟨x, rfl⟩ : ∃ x : Nat, a = (x : Int) := ⟨a.toNat, by omega⟩
  obtain ⟨y, rfl⟩ : ∃ y : Nat, b = (y : Int) := ⟨b.toNat, by omega⟩
  by_cases e : x = y
  · rw [e]
  · exfalso
    by_cases l : x < y
    · exact rgo_one _ _ _ h (by omega) x y (by omega) l (by omega) ha hb
    · exact rgo_one _ _ _ h (by omega) y x (by omega) (by omega) (by omega) hb ha

/-! #### in, Meet, Over, Kids -/
theorem ixf_l0 (t : List Int) (hb : t.length ≤ 1000) (d : Nat) : ∀ (i : Nat) (l : List Int), l.length ≤ 1000 → i ≤ l.length → l.length - i = d →
    ∃ v, Ev (fun k => slices_IndexFunc_int_int_dom_in_1.l0 k l (l.length : Int) (i : Int) t) v ∧ decide (v ≥ 0) = (l.drop i).any (fun a => (way t a).isNone) := by
  induction d with
  | zero =>
    intro i l hl hi hd
    refine ⟨-1, Ev.succ ?_, ?_⟩
    · simp only [slices_IndexFunc_int_int_dom_in_1.l0]; exact Ev.ifn (by omega) Ev.pure
    · rw [List.drop_of_length_le (by omega)]; rfl
  | succ d ih =>
    intro i l hl hi hd
    obtain ⟨v, h1, h2⟩ := ih (i + 1) l hl (by omega) (by omega)
    rw [drop_getD l i 0 (by omega), List.any_cons]
    have hrd : rd l (i : Int) = l.getD i 0 := by simp [rd]
    have hin : Ev (fun k => dom_in_1.f k (rd l (i : Int)) t) (way t (l.getD i 0)).isNone := by
      unfold dom_in_1.f
      refine Ev.bind (depth_ok t hb _) (Ev.pure.of_eq ?_)
      rw [hrd]
      cases hw : way t (l.getD i 0) with
      | none => rw [decide_eq_true (dep_neg.mpr hw)]; rfl
      | some m => rw [decide_eq_false (fun h => by rw [dep_neg.mp h] at hw; cases hw)]; rfl
    cases hw : (way t (l.getD i 0)).isNone with
    | true =>
      refine ⟨(i : Int), Ev.succ ?_, by simp⟩
      simp only [slices_IndexFunc_int_int_dom_in_1.l0]
      refine Ev.ifp (by omega) (Ev.ifp (by omega) (Ev.ifp (by omega) (Ev.bind hin ?_)))
      exact Ev.ifp hw Ev.pure
    | false =>
      refine ⟨v, Ev.succ ?_, by rw [h2]; rfl⟩
      simp only [slices_IndexFunc_int_int_dom_in_1.l0]
      refine Ev.ifp (by omega) (Ev.ifp (by omega) (Ev.ifp (by omega) (Ev.bind hin ?_)))
      refine Ev.ifn (by rw [hw]; decide) ?_
      rw [wrap_nat (by omega)]; exact h1
def inT (t : List Int) (l : List Int) : Bool := rgt t && l.all (fun a => (way t a).isSome)
theorem in_ok (t : List Int) (hb : t.length ≤ 1000) (l : List Int) (hl : l.length ≤ 1000) : Ev (fun k => dom_in.f k t l) (inT t l) := by
  unfold dom_in.f inT
  refine Ev.bind (right_ok t hb) ?_
  cases hr : rgt t with
  | false => exact Ev.ifn (by decide) Ev.pure
  | true =>
    refine Ev.ifp rfl ?_
    obtain ⟨v, h1, h2⟩ := ixf_l0 t hb l.length 0 l hl (by omega) (by omega)
    refine Ev.bind (a := decide (v ≥ 0)) ?_ (Ev.pure.of_eq ?_)
    · unfold slices_ContainsFunc_int_int_dom_in_1.f slices_IndexFunc_int_int_dom_in_1.f
      exact Ev.bind h1 Ev.pure
    · rw [h2, List.drop_zero, Bool.true_and, List.not_any_eq_all_not]
      congr 1
      funext a
      cases way t a <;> rfl
/-- The first of a list that lies in another one; -2: none. -/
def fst2 (p q : List Int) : Int := (p.find? (fun x => decide (x ∈ q))).getD (-2)
def meetT (t : List Int) (a b : Int) : Int := if rgt t = true then match way t a, way t b with | some p, some q => fst2 p q | _, _ => -2 else -2
theorem meet_l0 (t : List Int) (hb : t.length ≤ 1000) (hr : rgt t = true) : ∀ (m : Nat) (p q : List Int) (a b : Int), p.length + q.length ≤ m → way t a = some p → way t b = some q → Ev (fun k => dom_Meet.l0 k t a b) (fst2 p q) := by
  intro m
  induction m with
  | zero =>
    intro p q a b hm hp hq
    have h := (way_form hp).2.2.2
    rcases h with ⟨_, e⟩ | ⟨_, _, e, _⟩ <;> rw [e] at hm <;> simp at hm
  | succ m ih =>
    intro p q a b hm hp hq
    obtain ⟨pa0, pa1, pa2, pa3⟩ := way_form hp
    obtain ⟨qa0, qa1, qa2, qa3⟩ := way_form hq
    have hpd : dep t a = (p.length : Int) - 1 := by unfold dep; rw [hp]
    have hqd : dep t b = (q.length : Int) - 1 := by unfold dep; rw [hq]
    refine Ev.succ ?_; simp only [dom_Meet.l0]
    by_cases hab : a = b
    · refine Ev.ifp hab (Ev.pure.of_eq ?_)
      subst hab
      rw [hp] at hq; cases hq
      rcases pa3 with ⟨_, e⟩ | ⟨_, _, e, _⟩ <;> rw [e] <;> simp [fst2]
    · refine Ev.ifn hab (Ev.bind (depth_ok t hb a) (Ev.bind (depth_ok t hb b) ?_))
      rw [hpd, hqd]
      by_cases hge : (p.length : Int) - 1 ≥ (q.length : Int) - 1
      · refine Ev.ifp hge (Ev.ifp (by omega) (Ev.ifp (by omega) ?_))
        rcases pa3 with ⟨ht, e⟩ | ⟨_, p', e, hp'⟩
        · rw [e] at hge
          rcases qa3 with ⟨ht', e'⟩ | ⟨_, q', e', hq'⟩
          · exact absurd (rgt_one hr pa0 pa1 qa0 qa1 ht ht') hab
          · exfalso
            have h := (way_form hq').2.2.2
            rw [e'] at hge
            rcases h with ⟨_, e''⟩ | ⟨_, _, e'', _⟩ <;> rw [e''] at hge <;> simp at hge <;> omega
        · have hnot : ¬ a ∈ q := by
            intro hm'
            rcases way_mem hq hm' with e'' | ⟨m', h7, h8⟩
            · exact hab e''
            · rw [hp] at h7; cases h7; omega
          rw [e] at hm ⊢
          refine (ih p' q (rd t a) b (by simp at hm; omega) hp' hq).of_eq ?_
          unfold fst2
          rw [List.find?_cons_of_neg (by simpa using hnot)]
      · refine Ev.ifn hge (Ev.ifp (by omega) (Ev.ifp (by omega) ?_))
        rcases qa3 with ⟨ht, e⟩ | ⟨_, q', e, hq'⟩
        · exfalso
          rw [e] at hge
          rcases pa3 with ⟨_, e'⟩ | ⟨_, _, e', _⟩ <;> rw [e'] at hge <;> simp at hge <;> omega
        · have hnot : ¬ b ∈ p := by
            intro hm'
            rcases way_mem hp hm' with e'' | ⟨m', h7, h8⟩
            · exact hab e''.symm
            · rw [hq] at h7; cases h7; omega
          rw [e] at hm ⊢
          refine (ih p q' a (rd t b) (by simp at hm; omega) hp hq').of_eq ?_
          unfold fst2
          congr 1
          have : ∀ l : List Int, (∀ x ∈ l, x ∈ p) → l.find? (fun x => decide (x ∈ q')) = l.find? (fun x => decide (x ∈ b :: q')) := by
            intro l
            induction l with
            | nil => intro _; rfl
            | cons x l ih2 =>
              intro hl
              have hx : x ≠ b := fun e => hnot (e ▸ hl x (List.mem_cons_self ..))
              have e3 : decide (x ∈ b :: q') = decide (x ∈ q') := by simp [hx]
              rw [List.find?_cons, List.find?_cons, e3, ih2 (fun y hy => hl y (List.mem_cons_of_mem _ hy))]
          exact this p (fun _ h => h)
theorem inT_two {t : List Int} {a b : Int} : inT t [a, b] = true ↔ rgt t = true ∧ (∃ p, way t a = some p) ∧ ∃ q, way t b = some q := by
  unfold inT
  simp [Option.isSome_iff_exists]
theorem inT_one {t : List Int} {a : Int} : inT t [a] = true ↔ rgt t = true ∧ ∃ p, way t a = some p := by
  unfold inT
  simp [Option.isSome_iff_exists]
theorem meet_ok (t : List Int) (hb : t.length ≤ 1000) (a b : Int) : Ev (fun k => dom_Meet.f k t a b) (meetT t a b) := by
  unfold dom_Meet.f meetT
  refine Ev.bind (in_ok t hb _ (by simp)) ?_
  by_cases h : inT t [a, b] = true
  · obtain ⟨hr, ⟨p, hp⟩, q, hq⟩ := inT_two.mp h
    refine Ev.ifp h ?_
    rw [if_pos hr, hp, hq]
    exact meet_l0 t hb hr _ p q a b (Nat.le_refl _) hp hq
  · refine Ev.ifn h (Ev.pure.of_eq ?_)
    by_cases hr : rgt t = true
    · rw [if_pos hr]
      cases hp : way t a with
      | none => rfl
      | some p => cases hq : way t b with
        | none => rfl
        | some q => exact absurd (inT_two.mpr ⟨hr, ⟨p, hp⟩, q, hq⟩) h
    · rw [if_neg hr]
def overT (t : List Int) (a b : Int) : Bool := inT t [a, b] && (meetT t a b == a)
theorem over_ok (t : List Int) (hb : t.length ≤ 1000) (a b : Int) : Ev (fun k => dom_Over.f k t a b) (overT t a b) := by
  unfold dom_Over.f overT
  refine Ev.bind (in_ok t hb _ (by simp)) ?_
  cases h : inT t [a, b] with
  | false => exact Ev.ifn (by decide) Ev.pure
  | true => exact Ev.ifp rfl (Ev.bind (meet_ok t hb a b) Ev.pure)
/-- Whose entry one is, from i on. -/
def kdT (t : List Int) (a : Int) (i : Nat) : List Int := ((List.range t.length).drop i).filterMap (fun b => if rd t ((b : Nat) : Int) = a then some ((b : Nat) : Int) else none)
theorem kdT_end (t : List Int) (a : Int) (i : Nat) (h : t.length ≤ i) : kdT t a i = [] := by unfold kdT; rw [List.drop_of_length_le (by simpa using h)]; rfl
theorem kdT_step (t : List Int) (a : Int) (i : Nat) (h : i < t.length) : kdT t a i = (if rd t (i : Int) = a then [(i : Int)] else []) ++ kdT t a (i + 1) := by
  unfold kdT
  rw [drop_getD (List.range t.length) i 0 (by simpa using h), List.filterMap_cons, List.getD_eq_getElem?_getD, List.getElem?_range h, Option.getD_some]
  split <;> rename_i e <;> split at e <;> simp_all
theorem kids_l0 (t : List Int) (hb : t.length ≤ 1000) (a : Int) (d : Nat) : ∀ (i : Nat) (o : List Int), t.length - i = d → i ≤ t.length → o.length ≤ i →
    Ev (fun k => dom_Kids.l0 k t a o t (t.length : Int) (i : Int)) (o ++ if inT t [a] = true then kdT t a i else []) := by
  induction d with
  | zero =>
    intro i o hd hi _
    refine Ev.succ ?_; simp only [dom_Kids.l0]
    refine Ev.ifn (by omega) (Ev.pure.of_eq ?_)
    rw [kdT_end _ _ _ (by omega)]; simp
  | succ d ih =>
    intro i o hd hi ho
    refine Ev.succ ?_; simp only [dom_Kids.l0]
    refine Ev.ifp (by omega) (Ev.ifp (by omega) (Ev.ifp (by omega) ?_))
    rw [kdT_step _ _ _ (show i < t.length by omega), wrap_nat (by omega)]
    by_cases e : rd t (i : Int) = a
    · refine Ev.ifp e (Ev.bind (in_ok t hb [a] (by simp)) ?_)
      rw [if_pos e]
      by_cases hin : inT t [a] = true
      · refine Ev.ifp hin (Ev.ifp (by omega) ?_)
        refine (ih (i + 1) (o ++ [(i : Int)]) (by omega) (by omega) (by simp; omega)).of_eq ?_
        rw [if_pos hin, if_pos hin]; simp
      · refine Ev.ifn hin ?_
        refine (ih (i + 1) o (by omega) (by omega) (by omega)).of_eq ?_
        rw [if_neg hin, if_neg hin]
    · refine Ev.ifn e ?_
      rw [if_neg e]
      exact (ih (i + 1) o (by omega) (by omega) (by omega)).of_eq (by simp)
def kidsT (t : List Int) (a : Int) : List Int := if inT t [a] = true then kdT t a 0 else []
theorem kids_ok (t : List Int) (hb : t.length ≤ 1000) (a : Int) : Ev (fun k => dom_Kids.f k t a) (kidsT t a) := by
  unfold dom_Kids.f
  exact (kids_l0 t hb a t.length 0 [] (by omega) (by omega) (by simp)).of_eq (by simp [kidsT])
end Go.Proofs.Ythahaajmgnoebaa.GP
namespace Go.Proofs.Ythahaajmgnoebaa.GP
open Go.RowKit Go.Proofs.Ythahaajmgnoebaa.G Go.Proofs.YthahaajmgnoebaaW.PrintWords

@[simp] theorem dtl_length (S : List (List Nat)) (r : Nat) : (dtl S r).length = S.length := by simp [dtl]
theorem rd_dtl {S : List (List Nat)} {r x : Nat} (h : x < S.length) : rd (dtl S r) (x : Int) = idv S r x := by
  simp only [rd, Int.toNat_natCast, dtl]; exact getD_map_range _ _ _ _ h
/-- A graph, its root, and places by its order. -/
structure Gd (S : List (List Nat)) (r : Nat) (at_ par : Nat → Nat) : Prop where
  gr : Gr S
  lt : r < S.length
  pl : Pl S r at_ par
  at0 : at_ r = 0
  atn : ∀ x, Rch S (-1) r x → at_ x < S.length
  idm : ∀ x, Rch S (-1) r x → x ≠ r → ∃ z, Idm S r z x
theorem places_ex {S : List (List Nat)} (h : Gr S) {r : Nat} (hr : r < S.length) : ∃ at_, Places (dfs S r) at_ := by
  refine ⟨fun x => (dfs S r).findIdx (fun y => decide (y = x)), fun j hj => ?_⟩
  have hex : ∃ y ∈ dfs S r, decide (y = (dfs S r).getD j 0) = true := ⟨(dfs S r).getD j 0, getD_mem hj, by simp⟩
  have h1 := List.findIdx_lt_length_of_exists hex
  have h2 := List.findIdx_getElem (w := h1)
  have h3 : (dfs S r)[j] = (dfs S r).getD j 0 := by rw [List.getD_eq_getElem?_getD, List.getElem?_eq_getElem hj]; rfl
  refine nodup_inj (dfs_nodup h hr) h1 hj ?_
  rw [h3]; exact of_decide_eq_true h2
theorem dm_last {S : List (List Nat)} {r d e : Nat} (hde : d ≠ e) {x : Nat} (h : Rch S (-1) r x) : Rch S (d : Int) r x ∨ Rch S (e : Int) d x ∨ Rch S (d : Int) e x := by
  induction h with
  | base _ =>
    by_cases e1 : r = d
    · subst e1; exact .inr (.inl (.base (by omega)))
    · by_cases e2 : r = e
      · subst e2; exact .inr (.inr (.base (by omega)))
      · exact .inl (.base (by omega))
  | @step a y _ hy _ ih =>
    by_cases e1 : y = d
    · subst e1; exact .inr (.inl (.base (by omega)))
    · by_cases e2 : y = e
      · subst e2; exact .inr (.inr (.base (by omega)))
      · rcases ih with h | h | h
        · exact .inl (.step h hy (by omega))
        · exact .inr (.inl (.step h hy (by omega)))
        · exact .inr (.inr (.step h hy (by omega)))
/-- Of two that dominate one, one dominates the other one. -/
theorem dm_line {S : List (List Nat)} {r d e x : Nat} (hd : Dm S r d x) (he : Dm S r e x) : Dm S r d e ∨ Dm S r e d := by
  by_cases hde : d = e
  · subst hde; exact .inl (dm_refl (dm_rch hd))
  · rcases dm_last hde hd.1 with h | h | h
    · exact absurd h hd.2
    · exact .inr ⟨dm_rch hd, fun h' => he.2 (h'.trans h)⟩
    · exact .inl ⟨dm_rch he, fun h' => hd.2 (h'.trans h)⟩
/-- The nearest dominator is there. -/
theorem idm_ex {S : List (List Nat)} {r : Nat} {at_ par : Nat → Nat} (hP : Pl S r at_ par) {x : Nat} (hx : Rch S (-1) r x) (hxr : x ≠ r) : ∃ z, Idm S r z x := by
  have key : ∀ (n z : Nat), Dm S r z x → z ≠ x → at_ x - at_ z ≤ n → ∃ z', Dm S r z' x ∧ z' ≠ x ∧ ∀ d, Dm S r d x → d ≠ x → at_ d ≤ at_ z' := by
    intro n
    induction n with
    | zero =>
      intro z hz hne hn
      have h1 := dm_le hP _ _ (Nat.le_refl _) hz
      exact absurd (hP.inj z x (dm_rch hz) hx (by omega)) hne
    | succ n ih =>
      intro z hz hne hn
      by_cases hex : ∃ d, Dm S r d x ∧ d ≠ x ∧ at_ z < at_ d
      · obtain ⟨d, h1, h2, h3⟩ := hex
        exact ih d h1 h2 (by have := dm_le hP _ _ (Nat.le_refl _) h1; omega)
      · exact ⟨z, hz, hne, fun d h1 h2 => Nat.le_of_not_lt (fun h3 => hex ⟨d, h1, h2, h3⟩)⟩
  obtain ⟨z, h1, h2, h3⟩ := key _ r (dm_root hx) (fun e => hxr e.symm) (Nat.le_refl _)
  refine ⟨z, h1, h2, fun d hd hdx => ?_⟩
  rcases dm_line hd h1 with h | h
  · exact h
  · have h4 := dm_le hP _ _ (Nat.le_refl _) h
    have h5 := h3 d hd hdx
    rw [hP.inj d z (dm_rch hd) (dm_rch h1) (by omega)]; exact dm_refl (dm_rch h1)
theorem gd_of {S : List (List Nat)} {r : Nat} (hG : Gr S) (hr : r < S.length) {at_ : Nat → Nat} (ha : Places (dfs S r) at_) : ∃ par, Gd S r at_ par := by
  obtain ⟨par, hP⟩ := dfs_pl hG hr ha
  refine ⟨par, hG, hr, hP, ?_, ?_, ?_⟩
  · obtain ⟨tail, htail⟩ := dfs_head hG r; have := ha 0 (by rw [htail]; simp); rw [htail] at this; simpa using this
  · intro y hy
    obtain ⟨i, hi, e⟩ := mem_at ((dfs_mem hG hr y).mpr hy)
    rw [← e, ha i hi]; have := dfs_len hG hr; omega
  · exact fun x hx hxr => idm_ex hP hx hxr
theorem gd_ex {S : List (List Nat)} {r : Nat} (hG : Gr S) (hr : r < S.length) : ∃ at_ par, Gd S r at_ par := by
  obtain ⟨at_, ha⟩ := places_ex hG hr
  exact ⟨at_, gd_of hG hr ha⟩

section
variable {S : List (List Nat)} {r : Nat} {at_ par : Nat → Nat}
theorem Gd.rd_no (hD : Gd S r at_ par) {x : Nat} (hx : x < S.length) (h : ¬ Rch S (-1) r x) : rd (dtl S r) (x : Int) = -2 := by rw [rd_dtl hx, idv_no hD.lt h]
theorem Gd.rd_root (hD : Gd S r at_ par) : rd (dtl S r) (r : Int) = -1 := by rw [rd_dtl hD.lt, idv_root]
theorem Gd.rd_idm (hD : Gd S r at_ par) {x : Nat} (h : Rch S (-1) r x) (hr : x ≠ r) : ∃ z, Idm S r z x ∧ rd (dtl S r) (x : Int) = (z : Int) := by
  obtain ⟨z, hz⟩ := hD.idm x h hr
  exact ⟨z, hz, by rw [rd_dtl (h.lt hD.gr hD.lt), idv_idm hD.pl hr hz]⟩
theorem Gd.way_no (hD : Gd S r at_ par) {x : Nat} (hx : x < S.length) (h : ¬ Rch S (-1) r x) : way (dtl S r) (x : Int) = none := by
  cases hw : way (dtl S r) (x : Int) with
  | none => rfl
  | some l =>
    have h1 := (way_form hw).2.2.2
    rw [hD.rd_no hx h] at h1
    rcases h1 with ⟨h1, _⟩ | ⟨_, m, _, h2⟩
    · omega
    · rw [show way (dtl S r) (-2) = none from pth_out (.inl (by omega))] at h2; cases h2
theorem Gd.way_rch (hD : Gd S r at_ par) : ∀ (n x : Nat), at_ x ≤ n → Rch S (-1) r x → ∃ l, pth (dtl S r) (at_ x + 1) (x : Int) = some l ∧ ∀ a : Int, a ∈ l ↔ ∃ d : Nat, a = (d : Int) ∧ Dm S r d x := by
  intro n
  induction n with
  | zero =>
    intro x hn hx
    by_cases e : x = r
    · subst e
      refine ⟨[(x : Int)], pth_top (by omega) (by rw [dtl_length]; have := hD.lt; omega) hD.rd_root, fun a => ?_⟩
      rw [List.mem_singleton]
      exact ⟨fun h => ⟨x, h, dm_refl hx⟩, fun ⟨d, h1, h2⟩ => by rw [h1, dm_of_root h2]⟩
    · have := (hD.pl.par x hx e).2.2; omega
  | succ n ih =>
    intro x hn hx
    have hxl := hx.lt hD.gr hD.lt
    by_cases e : x = r
    · subst e
      refine ⟨[(x : Int)], pth_top (by omega) (by rw [dtl_length]; have := hD.lt; omega) hD.rd_root, fun a => ?_⟩
      rw [List.mem_singleton]
      exact ⟨fun h => ⟨x, h, dm_refl hx⟩, fun ⟨d, h1, h2⟩ => by rw [h1, dm_of_root h2]⟩
    · obtain ⟨z, hz, hrd⟩ := hD.rd_idm hx e
      have hzR := dm_rch hz.1
      have hzl : at_ z < at_ x := Nat.lt_of_le_of_ne (dm_le hD.pl _ _ (Nat.le_refl _) hz.1) (fun e2 => hz.2.1 (hD.pl.inj z x hzR hx e2))
      obtain ⟨m, h1, h2⟩ := ih z (by omega) hzR
      refine ⟨(x : Int) :: m, ?_, fun a => ?_⟩
      · rw [pth_step (by omega) (by rw [dtl_length]; omega) (by rw [hrd]; omega), hrd, pth_more (show at_ z + 1 ≤ at_ x by omega) h1]; rfl
      · rw [List.mem_cons, h2]
        constructor
        · rintro (h | ⟨d, h3, h4⟩)
          · exact ⟨x, h, dm_refl hx⟩
          · exact ⟨d, h3, dm_trans h4 hz.1⟩
        · rintro ⟨d, h3, h4⟩
          by_cases e2 : d = x
          · exact .inl (by rw [h3, e2])
          · exact .inr ⟨d, h3, hz.2.2 d h4 e2⟩
theorem Gd.way (hD : Gd S r at_ par) {x : Nat} (hx : Rch S (-1) r x) : ∃ l, way (dtl S r) (x : Int) = some l ∧ ∀ a : Int, a ∈ l ↔ ∃ d : Nat, a = (d : Int) ∧ Dm S r d x := by
  obtain ⟨l, h1, h2⟩ := hD.way_rch _ x (Nat.le_refl _) hx
  exact ⟨l, pth_more (by rw [dtl_length]; exact hD.atn x hx) h1, h2⟩
theorem Gd.way_iff (hD : Gd S r at_ par) {x : Nat} (hx : x < S.length) : (∃ l, GP.way (dtl S r) (x : Int) = some l) ↔ Rch S (-1) r x := by
  constructor
  · rintro ⟨l, h⟩
    refine Classical.byContradiction (fun hn => ?_)
    rw [hD.way_no hx hn] at h; cases h
  · intro h; obtain ⟨l, h1, _⟩ := hD.way h; exact ⟨l, h1⟩
theorem Gd.rgo (hD : Gd S r at_ par) (d : Nat) : ∀ i : Nat, i + d = S.length → rgo (dtl S r) d i (if r < i then 1 else 0) = true := by
  induction d with
  | zero =>
    intro i hi
    rw [if_pos (by have := hD.lt; omega)]; rfl
  | succ d ih =>
    intro i hi
    have h1 : ¬ (rd (dtl S r) (i : Int) ≠ -2 ∧ GP.way (dtl S r) (i : Int) = none) := by
      rintro ⟨h1, h2⟩
      by_cases hR : Rch S (-1) r i
      · obtain ⟨l, h3, _⟩ := hD.way hR; rw [h2] at h3; cases h3
      · exact h1 (hD.rd_no (by omega) hR)
    rw [GP.rgo, if_neg h1]
    have h2 := ih (i + 1) (by omega)
    by_cases e : i = r
    · rw [e, hD.rd_root, if_pos rfl, if_neg (Nat.lt_irrefl _)]
      rw [e, if_pos (Nat.lt_succ_self _)] at h2
      exact h2
    · have h3 : rd (dtl S r) (i : Int) ≠ -1 := by
        by_cases hR : Rch S (-1) r i
        · obtain ⟨z, _, h4⟩ := hD.rd_idm hR e; rw [h4]; omega
        · rw [hD.rd_no (by omega) hR]; omega
      rw [if_neg h3]
      by_cases hlt : r < i
      · rw [if_pos hlt]; rw [if_pos (by omega)] at h2; exact h2
      · rw [if_neg hlt]; rw [if_neg (by omega)] at h2; exact h2
theorem Gd.rgt (hD : Gd S r at_ par) : rgt (dtl S r) = true := by
  show GP.rgo (dtl S r) (dtl S r).length 0 0 = true
  rw [dtl_length]
  have := hD.rgo S.length 0 (by omega)
  simpa using this
theorem Gd.inT2 (hD : Gd S r at_ par) {a b : Nat} (ha : a < S.length) (hb : b < S.length) : inT (dtl S r) [(a : Int), (b : Int)] = true ↔ Rch S (-1) r a ∧ Rch S (-1) r b := by
  rw [inT_two, hD.way_iff ha, hD.way_iff hb]
  exact ⟨fun h => h.2, fun h => ⟨hD.rgt, h⟩⟩
theorem Gd.inT1 (hD : Gd S r at_ par) {a : Nat} (ha : a < S.length) : inT (dtl S r) [(a : Int)] = true ↔ Rch S (-1) r a := by
  rw [inT_one, hD.way_iff ha]
  exact ⟨fun h => h.2, fun h => ⟨hD.rgt, h⟩⟩
theorem fst2_way {t : List Int} {Q : List Int} : ∀ {l : List Int} {a : Int}, GP.way t a = some l → ∀ {c}, c ∈ l → c ∈ Q → fst2 l Q ∈ l ∧ fst2 l Q ∈ Q ∧ ∃ ml, GP.way t (fst2 l Q) = some ml ∧ c ∈ ml := by
  intro l
  induction l with
  | nil => intro a _ c hc; cases hc
  | cons x l ih =>
    intro a h c hc hcQ
    obtain ⟨_, _, _, h4⟩ := way_form h
    have hxa : x = a := by rcases h4 with ⟨_, e⟩ | ⟨_, m, e, _⟩ <;> injection e
    by_cases hx : x ∈ Q
    · have e : fst2 (x :: l) Q = x := by unfold fst2; rw [List.find?_cons, decide_eq_true hx]; rfl
      rw [e]
      exact ⟨List.mem_cons_self .., hx, x :: l, by rw [hxa] at h ⊢; exact h, hc⟩
    · have e : fst2 (x :: l) Q = fst2 l Q := by unfold fst2; rw [List.find?_cons, decide_eq_false hx]
      rw [e]
      have hcl : c ∈ l := by
        rcases List.mem_cons.mp hc with e2 | e2
        · subst e2; exact absurd hcQ hx
        · exact e2
      rcases h4 with ⟨_, e2⟩ | ⟨_, m, e2, h5⟩
      · injection e2 with _ e3; rw [e3] at hcl; cases hcl
      · injection e2 with _ e3
        subst e3
        obtain ⟨g1, g2, g3⟩ := ih h5 hcl hcQ
        exact ⟨List.mem_cons_of_mem _ g1, g2, g3⟩
/-- Where two meet: the nearest of those that dominate both. -/
theorem Gd.meet (hD : Gd S r at_ par) {a b : Nat} (ha : Rch S (-1) r a) (hb : Rch S (-1) r b) : ∃ m : Nat, meetT (dtl S r) (a : Int) (b : Int) = (m : Int) ∧ Dm S r m a ∧ Dm S r m b ∧ ∀ c, Dm S r c a → Dm S r c b → Dm S r c m := by
  obtain ⟨p, hp, hp2⟩ := hD.way ha
  obtain ⟨q, hq, hq2⟩ := hD.way hb
  have e : meetT (dtl S r) (a : Int) (b : Int) = fst2 p q := by unfold meetT; rw [if_pos hD.rgt, hp, hq]
  have hrp : (r : Int) ∈ p := (hp2 _).mpr ⟨r, rfl, dm_root ha⟩
  have hrq : (r : Int) ∈ q := (hq2 _).mpr ⟨r, rfl, dm_root hb⟩
  obtain ⟨g1, g2, _⟩ := fst2_way hp hrp hrq
  obtain ⟨m, hm, hma⟩ := (hp2 _).mp g1
  obtain ⟨m', hm', hmb⟩ := (hq2 _).mp g2
  have emm : m = m' := by omega
  subst emm
  refine ⟨m, by rw [e, hm], hma, hmb, fun c h1 h2 => ?_⟩
  obtain ⟨_, _, ml, g3, g4⟩ := fst2_way hp ((hp2 _).mpr ⟨c, rfl, h1⟩) ((hq2 _).mpr ⟨c, rfl, h2⟩)
  obtain ⟨l, h5, h6⟩ := hD.way (dm_rch hma)
  rw [hm, h5] at g3; cases g3
  obtain ⟨d, h7, h8⟩ := (h6 _).mp g4
  rw [show c = d by omega]; exact h8
theorem Gd.meet_no (hD : Gd S r at_ par) {a b : Nat} (ha : a < S.length) (hb : b < S.length) (h : ¬ (Rch S (-1) r a ∧ Rch S (-1) r b)) : meetT (dtl S r) (a : Int) (b : Int) = -2 := by
  unfold meetT
  rw [if_pos hD.rgt]
  cases hp : GP.way (dtl S r) (a : Int) with
  | none => rfl
  | some p => cases hq : GP.way (dtl S r) (b : Int) with
    | none => rfl
    | some q => exact absurd ⟨(hD.way_iff ha).mp ⟨p, hp⟩, (hD.way_iff hb).mp ⟨q, hq⟩⟩ h
theorem Gd.over (hD : Gd S r at_ par) {a b : Nat} (ha : a < S.length) (hb : b < S.length) : overT (dtl S r) (a : Int) (b : Int) = true ↔ Dm S r a b := by
  unfold overT
  rw [Bool.and_eq_true, hD.inT2 ha hb]
  constructor
  · rintro ⟨⟨h1, h2⟩, h3⟩
    obtain ⟨m, g1, g2, g3, _⟩ := hD.meet h1 h2
    have : m = a := by have := eq_of_beq h3; omega
    rw [← this]; exact g3
  · intro h
    have h1 := dm_rch h
    refine ⟨⟨h1, h.1⟩, ?_⟩
    obtain ⟨m, g1, g2, g3, g4⟩ := hD.meet h1 h.1
    have : a = m := dm_antisymm hD.pl (g4 a (dm_refl h1) h) g2
    rw [g1, this]; simp
theorem Gd.over_eq (hD : Gd S r at_ par) {a b : Nat} (ha : a < S.length) (hb : b < S.length) (v : Bool) (h : v = true ↔ Dm S r a b) : overT (dtl S r) (a : Int) (b : Int) = v := by
  have h2 := hD.over ha hb
  rw [← h] at h2
  cases v <;> cases h3 : overT (dtl S r) (a : Int) (b : Int) <;> simp_all
end
end Go.Proofs.Ythahaajmgnoebaa.GP
namespace Go.Proofs.Ythahaajmgnoebaa.G
open Go.Proofs.YthahaajmgnoebaaH
open Go.RowKit Go.Proofs.YthahaajmgnoebaaW.PrintWords Go.Proofs.YthahaajmgnoebaaW.PrintLast Go.Proofs.YthahaajmgnoebaaW.PrintMore
attribute [local go_sem] max2_int min2_int max_two min_two max_three min_three max_four min_four   -- for this text's walks alone
set_option linter.unusedVariables false
set_option linter.unusedSimpArgs false

/-! ### lockstepref06_Reach: function 22 -/
mutual
def lockstepref06_Reach.l0 : Nat → Int → List Bool → Int → List (List Int) → List (List Int) → Option (List Bool)
 | 0, _, _, _, _, _ => none
 | k + 1, x2, x7, x8, x307000, x307001 => if x8 < (x7.length : Int) then (lockstepref06_Reach.l1 k x2 x7 x8 0 x307000 x307001) else (some x7)
def lockstepref06_Reach.l1 : Nat → Int → List Bool → Int → Int → List (List Int) → List (List Int) → Option (List Bool)
 | 0, _, _, _, _, _, _ => none
 | k + 1, x2, x7, x8, x9, x307000, x307001 => if x9 < (x7.length : Int) then (lockstepref06_Reach.l2 k x2 x7 x8 x9 0 x307000 x307001) else (lockstepref06_Reach.l0 k x2 x7 (wrap64 (x8 + 1)) x307000 x307001)
def lockstepref06_Reach.l2 : Nat → Int → List Bool → Int → Int → Int → List (List Int) → List (List Int) → Option (List Bool)
 | 0, _, _, _, _, _, _, _ => none
 | k + 1, x2, x7, x8, x9, x10, x307000, x307001 => if 0 ≤ x9 then (if x9 < (x7.length : Int) then (if rdOf false x7 x9 = true then (if x9 < (x307000.length : Int) then (lockstepref06_Reach.j3 k x2 x7 x8 x9 x10 (decide (x10 < ((rd_L1 x307000 x9).length : Int))) x307000 x307001) else (none)) else (lockstepref06_Reach.j3 k x2 x7 x8 x9 x10 false x307000 x307001)) else (none)) else (none)
def lockstepref06_Reach.j3 : Nat → Int → List Bool → Int → Int → Int → Bool → List (List Int) → List (List Int) → Option (List Bool)
 | 0, _, _, _, _, _, _, _, _ => none
 | k + 1, x2, x7, x8, x9, x10, x47, x307000, x307001 => if x47 = true then (if 0 ≤ x9 then (if x9 < (x307000.length : Int) then (if 0 ≤ x10 then (if x10 < ((rd_L1 x307000 x9).length : Int) then (if (rd (rd_L1 x307000 x9) x10) = x2 then (lockstepref06_Reach.l2 k x2 x7 x8 x9 (wrap64 (x10 + 1)) x307000 x307001) else (if 0 ≤ (rd (rd_L1 x307000 x9) x10) then (if (rd (rd_L1 x307000 x9) x10) < (x7.length : Int) then (lockstepref06_Reach.l2 k x2 (x7.set ((rd (rd_L1 x307000 x9) x10) : Int).toNat true) x8 x9 (wrap64 (x10 + 1)) x307000 x307001) else (none)) else (none))) else (none)) else (none)) else (none)) else (none)) else (lockstepref06_Reach.l1 k x2 x7 x8 (wrap64 (x9 + 1)) x307000 x307001)
end
def lockstepref06_Reach.f (k : Nat) (l0_0 : List (List Int)) (l0_1 : List (List Int)) (a1 : Int) (a2 : Int) : Option (List Bool) := if 0 ≤ (l0_0.length : Int) then (if ((l0_0.length : Int) : Int).toNat ≤ 281474976710656 then ((some (List.replicate ((l0_0.length : Int) : Int).toNat false : List Bool)).bind fun y307 => (if a1 = a2 then (some y307) else (if 0 ≤ a1 then (if a1 < (y307.length : Int) then (lockstepref06_Reach.l0 k a2 (y307.set (a1 : Int).toNat true) 0 l0_0 l0_1) else (none)) else (none)))) else (none)) else (none)
theorem lockstepref06_Reach.mono_l : ∀ k, (∀ y0 y1 y2 y3 y4, LeO (lockstepref06_Reach.l0 k y0 y1 y2 y3 y4) (lockstepref06_Reach.l0 (k + 1) y0 y1 y2 y3 y4)) ∧ (∀ y0 y1 y2 y3 y4 y5, LeO (lockstepref06_Reach.l1 k y0 y1 y2 y3 y4 y5) (lockstepref06_Reach.l1 (k + 1) y0 y1 y2 y3 y4 y5)) ∧ (∀ y0 y1 y2 y3 y4 y5 y6, LeO (lockstepref06_Reach.l2 k y0 y1 y2 y3 y4 y5 y6) (lockstepref06_Reach.l2 (k + 1) y0 y1 y2 y3 y4 y5 y6)) ∧ (∀ y0 y1 y2 y3 y4 y5 y6 y7, LeO (lockstepref06_Reach.j3 k y0 y1 y2 y3 y4 y5 y6 y7) (lockstepref06_Reach.j3 (k + 1) y0 y1 y2 y3 y4 y5 y6 y7))
 | 0 => ⟨fun _ _ _ _ _ r h => by simp [lockstepref06_Reach.l0] at h, fun _ _ _ _ _ _ r h => by simp [lockstepref06_Reach.l1] at h, fun _ _ _ _ _ _ _ r h => by simp [lockstepref06_Reach.l2] at h, fun _ _ _ _ _ _ _ _ r h => by simp [lockstepref06_Reach.j3] at h⟩
 | k + 1 => by
  obtain ⟨ih0, ih1, ih2, ih3⟩ := lockstepref06_Reach.mono_l k
  refine ⟨?_, ?_, ?_, ?_⟩
  ·intro y0 y1 y2 y3 y4
   unfold lockstepref06_Reach.l0
   repeat' first
   | (with_reducible exact ih0 _ _ _ _ _)
   | (with_reducible exact ih1 _ _ _ _ _ _)
   | (with_reducible exact ih2 _ _ _ _ _ _ _)
   | (with_reducible exact ih3 _ _ _ _ _ _ _ _)
   | (with_reducible exact LeO.refl _)
   | (with_reducible exact LeO.none _)
   | (with_reducible refine LeO.ite ?_ ?_)
   | (with_reducible refine LeO.bind ?_ (fun _ => ?_))
   | exact ih0 _ _ _ _ _
   | exact ih1 _ _ _ _ _ _
   | exact ih2 _ _ _ _ _ _ _
   | exact ih3 _ _ _ _ _ _ _ _
   | exact LeO.none _
   | refine LeO.ite ?_ ?_
   | refine LeO.bind ?_ (fun _ => ?_)
  ·intro y0 y1 y2 y3 y4 y5
   unfold lockstepref06_Reach.l1
   repeat' first
   | (with_reducible exact ih0 _ _ _ _ _)
   | (with_reducible exact ih1 _ _ _ _ _ _)
   | (with_reducible exact ih2 _ _ _ _ _ _ _)
   | (with_reducible exact ih3 _ _ _ _ _ _ _ _)
   | (with_reducible exact LeO.refl _)
   | (with_reducible exact LeO.none _)
   | (with_reducible refine LeO.ite ?_ ?_)
   | (with_reducible refine LeO.bind ?_ (fun _ => ?_))
   | exact ih0 _ _ _ _ _
   | exact ih1 _ _ _ _ _ _
   | exact ih2 _ _ _ _ _ _ _
   | exact ih3 _ _ _ _ _ _ _ _
   | exact LeO.none _
   | refine LeO.ite ?_ ?_
   | refine LeO.bind ?_ (fun _ => ?_)
  ·intro y0 y1 y2 y3 y4 y5 y6
   unfold lockstepref06_Reach.l2
   repeat' first
   | (with_reducible exact ih0 _ _ _ _ _)
   | (with_reducible exact ih1 _ _ _ _ _ _)
   | (with_reducible exact ih2 _ _ _ _ _ _ _)
   | (with_reducible exact ih3 _ _ _ _ _ _ _ _)
   | (with_reducible exact LeO.refl _)
   | (with_reducible exact LeO.none _)
   | (with_reducible refine LeO.ite ?_ ?_)
   | (with_reducible refine LeO.bind ?_ (fun _ => ?_))
   | exact ih0 _ _ _ _ _
   | exact ih1 _ _ _ _ _ _
   | exact ih2 _ _ _ _ _ _ _
   | exact ih3 _ _ _ _ _ _ _ _
   | exact LeO.none _
   | refine LeO.ite ?_ ?_
   | refine LeO.bind ?_ (fun _ => ?_)
  ·intro y0 y1 y2 y3 y4 y5 y6 y7
   unfold lockstepref06_Reach.j3
   repeat' first
   | (with_reducible exact ih0 _ _ _ _ _)
   | (with_reducible exact ih1 _ _ _ _ _ _)
   | (with_reducible exact ih2 _ _ _ _ _ _ _)
   | (with_reducible exact ih3 _ _ _ _ _ _ _ _)
   | (with_reducible exact LeO.refl _)
   | (with_reducible exact LeO.none _)
   | (with_reducible refine LeO.ite ?_ ?_)
   | (with_reducible refine LeO.bind ?_ (fun _ => ?_))
   | exact ih0 _ _ _ _ _
   | exact ih1 _ _ _ _ _ _
   | exact ih2 _ _ _ _ _ _ _
   | exact ih3 _ _ _ _ _ _ _ _
   | exact LeO.none _
   | refine LeO.ite ?_ ?_
   | refine LeO.bind ?_ (fun _ => ?_)
theorem lockstepref06_Reach.mono : ∀ a0 a1 a2 a3 k, LeO (lockstepref06_Reach.f k a0 a1 a2 a3) (lockstepref06_Reach.f (k + 1) a0 a1 a2 a3) := by
 intro a0 a1 a2 a3 k
 obtain ⟨ih0, ih1, ih2, ih3⟩ := lockstepref06_Reach.mono_l k
 unfold lockstepref06_Reach.f
 repeat' first
  | (with_reducible exact ih0 _ _ _ _ _)
  | (with_reducible exact ih1 _ _ _ _ _ _)
  | (with_reducible exact ih2 _ _ _ _ _ _ _)
  | (with_reducible exact ih3 _ _ _ _ _ _ _ _)
  | (with_reducible exact LeO.refl _)
  | (with_reducible exact LeO.none _)
  | (with_reducible refine LeO.ite ?_ ?_)
  | (with_reducible refine LeO.bind ?_ (fun _ => ?_))
  | exact ih0 _ _ _ _ _
  | exact ih1 _ _ _ _ _ _
  | exact ih2 _ _ _ _ _ _ _
  | exact ih3 _ _ _ _ _ _ _ _
  | exact LeO.none _
  | refine LeO.ite ?_ ?_
  | refine LeO.bind ?_ (fun _ => ?_)
set_option maxHeartbeats 8000000 in
set_option maxRecDepth 100000 in
theorem lockstepref06_Reach.calls (k : Nat) (A0_0 : Option Addr) (c0_0 : Nat) (l0_0 : List (List Int)) (A0_1 : Option Addr) (c0_1 : Nat) (l0_1 : List (List Int)) (a1 : Int) (a2 : Int) (r : List Bool) (w : World) (hr0_0 : Kd.C (Kd.slice 3 (Kd.int .i64)) w A0_0 l0_0.length l0_0) (hc0_0 : l0_0.length ≤ c0_0) (hr0_1 : Kd.C (Kd.slice 3 (Kd.int .i64)) w A0_1 l0_1.length l0_1) (hc0_1 : l0_1.length ≤ c0_1) (h : lockstepref06_Reach.f k l0_0 l0_1 a1 a2 = some r) :
 Calls Try.prog 22 #[.agg #[.slice A0_0 l0_0.length c0_0, .slice A0_1 l0_1.length c0_1], .int .i64 a1, .int .i64 a2] w fun e w' => ∃ v0_ : Value, e = .returned (v0_) ∧ Kd.R Kd.bool 4 w' w.heap.size (fun _ => True) v0_ r ∧ Below w.heap.size w w' := by
 have hu26 := Try.underlying26
 have HR0_0 := Aside0.mk hr0_0
 have HC0_0 := Aside0.mk hc0_0
 clear hr0_0 hc0_0
 have HR0_1 := Aside0.mk hr0_1
 have HC0_1 := Aside0.mk hc0_1
 clear hr0_1 hc0_1
 have HB := Aside0.mk (Below.refl w.heap.size w)
 have H : (if 0 ≤ (l0_0.length : Int) then (if ((l0_0.length : Int) : Int).toNat ≤ 281474976710656 then ((some (List.replicate ((l0_0.length : Int) : Int).toNat false : List Bool)).bind fun y307 => (if a1 = a2 then (some y307) else (if 0 ≤ a1 then (if a1 < (y307.length : Int) then (lockstepref06_Reach.l0 k a2 (y307.set (a1 : Int).toNat true) 0 l0_0 l0_1) else (none)) else (none)))) else (none)) else (none)) = some r := h
 clear h
 by_cases c4 : 0 ≤ (l0_0.length : Int)
 ·rw [if_pos c4] at H
  have c4b0 := eq_true c4
  have c4b1 : decide (0 ≤ (l0_0.length : Int)) = true := decide_eq_true c4
  clear c4
  by_cases c5 : ((l0_0.length : Int) : Int).toNat ≤ 281474976710656
  ·rw [if_pos c5] at H
   have c5b0 := eq_true c5
   have c5b1 : decide (((l0_0.length : Int) : Int).toNat ≤ 281474976710656) = true := decide_eq_true c5
   clear c5
   obtain ⟨y307, hy307⟩ : ∃ y_ : List Bool, y_ = (List.replicate ((l0_0.length : Int) : Int).toNat false) := ⟨_, rfl⟩
   replace H : (if a1 = a2 then (some y307) else (if 0 ≤ a1 then (if a1 < (y307.length : Int) then (lockstepref06_Reach.l0 k a2 (y307.set (a1 : Int).toNat true) 0 l0_0 l0_1) else (none)) else (none))) = some r := by first | (rw [hy307]; with_reducible exact H) | (have H2_ := (Option.bind_some _ _).symm.trans H; rw [hy307]; with_reducible exact H2_) | (have H2_ := (Option.bind_some _ _).symm.trans H; with_reducible exact H2_) | with_reducible exact H | (rw [hy307]; exact H) | exact H
   have Ny307 := Aside0.mk hy307
   clear hy307
   by_cases c6 : a1 = a2
   ·rw [if_pos c6] at H
    have c6b0 : (a1 == a2) = true := beq_iff_eq.mpr c6
    have c6b1 : (a1 != a2) = false := bne_eq_false_iff_eq.mpr c6
    clear c6
    obtain rfl := Option.some.inj H
    go_enter Try.func22, Try.ntmps22
    go_wp2_with (first | ((with_reducible refine gate_dst (N := 3) rfl ?_); (try (refine gate_guard (by rfl) ?_; dsimp only)); refine box_event ?hg (N := 3) ?hd (cs := #[.slice A0_0 l0_0.length c0_0, .slice A0_1 l0_1.length c0_1]) (t := 26) ?hr ?_; (case hd => rfl); (case hg => rfl); (case hr => first | (go_simp; done) | (go_simp; rfl)); intro gb306 hg w7 hbox hb; have n0_ := Aside0.mk (below_step (B_) hb); have n1_ := Aside0.mk (hbox); have n2_ := Aside0.mk ((by rw [hg]; exact (below_size (B_)) : w.heap.size ≤ gb306)); have n3_ := Aside0.mk ((by rw [hg]; exact (below_size (B_)) : w.heap.size ≤ gb306)); clear HB; have HB := n0_; have BK306 := n1_; have GW306 := n2_; have GE306 := n3_; clear n0_ n1_ n2_ n3_; clear hb hbox hg; have hcz8_0 : w7.cell? ⟨gb306, 0, none⟩ = some (.slice A0_0 l0_0.length c0_0) := (blk_cell BK306.out 0).trans rfl; have hcz8_1 : w7.cell? ⟨gb306, 1, none⟩ = some (.slice A0_1 l0_1.length c0_1) := (blk_cell BK306.out 1).trans rfl; have hfz8_0 := blk_frozen BK306.out 0; have hfz8_1 := blk_frozen BK306.out 1) | ((with_reducible refine gate_dst (N := 14) rfl ?_); (try (refine gate_guard (by rfl) ?_; dsimp only)); refine Kd.R_make Kd.bool _ 4 rfl (N := 14) rfl 39 _ _ rfl (l0_0.length : Int) rfl rfl Try.underlying39 (.bool false) 1 info4 rfl (by decide) (by omega) false (ok := fun _ => True) (okp := fun _ => True) rfl (fun _ hk => hk) trivial (D_) (Nat.le_trans (Nat.mul_le_mul_right _ (D_ : (l0_0.length : Int).toNat ≤ 281474976710656)) (by omega)) (Below.refl _ _) (Nat.le_refl _) ?_; intro v308 w9 ho10 hb hg_ hnew_; clear hg_ hnew_; (first | rw [← Ny307.out] at ho10 | (simp only [Int.reduceToNat] at ho10; rw [← Ny307.out] at ho10)); have n0_ := Aside0.mk (Kd.R_lower ho10 (below_size (B1_))); have n1_ := Aside0.mk (blk_below (g := gb306) (o := .cells #[.slice A0_0 l0_0.length c0_0, .slice A0_1 l0_1.length c0_1] 26 (0, 0)) (by (with_reducible repeat (first | refine blk_drewN ?_ _ | refine blk_drew ?_ | refine blk_alloc ?_ _)); exact BK306.out) hb); have n2_ := Aside0.mk (below_step (B1_) hb); clear BK306; clear HB; have HO309 := n0_; have BK306 := n1_; have HB := n2_; clear n0_ n1_ n2_; clear hb ho10))
    go_ret
    exact ⟨_, by first | rfl | (simp [errW_none, errW_some] <;> rfl) | (simp [*, errW_none, errW_some] <;> rfl), by (with_reducible repeat (first | apply Kd.R_alloc | apply Kd.R_drewN | apply Kd.R_drew)); exact HO309.out, B1_⟩
   rw [if_neg c6] at H
   have c6b0 : (a1 == a2) = false := beq_eq_false_iff_ne.mpr c6
   have c6b1 : (a1 != a2) = true := bne_iff_ne.mpr c6
   by_cases c11 : 0 ≤ a1
   ·rw [if_pos c11] at H
    have c11b0 : decide (0 ≤ a1) = true := decide_eq_true c11
    clear c11
    by_cases c12 : a1 < (y307.length : Int)
    ·rw [if_pos c12] at H
     have c12b0 : decide (a1 < (y307.length : Int)) = true := decide_eq_true c12
     clear c12
     obtain ⟨y310, hy310⟩ : ∃ y_ : List Bool, y_ = (y307.set (a1 : Int).toNat true) := ⟨_, rfl⟩
     replace H : (lockstepref06_Reach.l0 k a2 y310 0 l0_0 l0_1) = some r := by first | (rw [hy310]; with_reducible exact H) | (have H2_ := (Option.bind_some _ _).symm.trans H; rw [hy310]; with_reducible exact H2_) | (have H2_ := (Option.bind_some _ _).symm.trans H; with_reducible exact H2_) | with_reducible exact H | (rw [hy310]; exact H) | exact H
     have Ny310 := Aside0.mk hy310
     clear hy310
     have H' := Aside0.mk H
     clear H
     go_enter Try.func22, Try.ntmps22
     go_wp2_with (first | ((with_reducible refine gate_dst (N := 3) rfl ?_); (try (refine gate_guard (by rfl) ?_; dsimp only)); refine box_event ?hg (N := 3) ?hd (cs := #[.slice A0_0 l0_0.length c0_0, .slice A0_1 l0_1.length c0_1]) (t := 26) ?hr ?_; (case hd => rfl); (case hg => rfl); (case hr => first | (go_simp; done) | (go_simp; rfl)); intro gb306 hg w14 hbox hb; have n0_ := Aside0.mk (below_step (B_) hb); have n1_ := Aside0.mk (hbox); have n2_ := Aside0.mk ((by rw [hg]; exact (below_size (B_)) : w.heap.size ≤ gb306)); have n3_ := Aside0.mk ((by rw [hg]; exact (below_size (B_)) : w.heap.size ≤ gb306)); clear HB; have HB := n0_; have BK306 := n1_; have GW306 := n2_; have GE306 := n3_; clear n0_ n1_ n2_ n3_; clear hb hbox hg; have hcz15_0 : w14.cell? ⟨gb306, 0, none⟩ = some (.slice A0_0 l0_0.length c0_0) := (blk_cell BK306.out 0).trans rfl; have hcz15_1 : w14.cell? ⟨gb306, 1, none⟩ = some (.slice A0_1 l0_1.length c0_1) := (blk_cell BK306.out 1).trans rfl; have hfz15_0 := blk_frozen BK306.out 0; have hfz15_1 := blk_frozen BK306.out 1) | ((with_reducible refine gate_dst (N := 14) rfl ?_); (try (refine gate_guard (by rfl) ?_; dsimp only)); refine Kd.R_make Kd.bool _ 4 rfl (N := 14) rfl 39 _ _ rfl (l0_0.length : Int) rfl rfl Try.underlying39 (.bool false) 1 info4 rfl (by decide) (by omega) false (ok := fun _ => True) (okp := fun _ => True) rfl (fun _ hk => hk) trivial (D_) (Nat.le_trans (Nat.mul_le_mul_right _ (D_ : (l0_0.length : Int).toNat ≤ 281474976710656)) (by omega)) (Below.refl _ _) (Nat.le_refl _) ?_; intro v308 w16 ho17 hb hg_ hnew_; clear hg_ hnew_; (first | rw [← Ny307.out] at ho17 | (simp only [Int.reduceToNat] at ho17; rw [← Ny307.out] at ho17)); have n0_ := Aside0.mk (Kd.R_lower ho17 (below_size (B1_))); have n1_ := Aside0.mk (blk_below (g := gb306) (o := .cells #[.slice A0_0 l0_0.length c0_0, .slice A0_1 l0_1.length c0_1] 26 (0, 0)) (by (with_reducible repeat (first | refine blk_drewN ?_ _ | refine blk_drew ?_ | refine blk_alloc ?_ _)); exact BK306.out) hb); have n2_ := Aside0.mk (below_step (B1_) hb); clear BK306; clear HB; have HO309 := n0_; have BK306 := n1_; have HB := n2_; clear n0_ n1_ n2_; clear hb ho17; have p13 : 0 ≤ (a1 : Int) := D_; have q13 : (a1 : Int) < ((y307.length : Int) : Int) := D_; obtain ⟨go13, co13, eo13, gb13, gl13, cl13, HG13⟩ := Kd.R_form HO309.out (by omega); (first | cases eo13 | (injection eo13 with ea_ en_ ec_; (first | subst ea_ | (injection ea_ with ea_; subst ea_)); subst ec_; clear en_)); have GB13 := Aside0.mk gb13; have GG13 := Aside0.mk HG13; clear gb13 gl13 HG13; obtain ⟨hx13_0, hf13_0⟩ := Kd.R_celln false HO309.out (a1 : Int) p13 q13; replace p13 := eq_true p13; replace q13 := eq_true q13; obtain ⟨hy18_, hz18_⟩ := Kd.R_celln false HO309.out (a1 : Int) (D_) (D_); have HP18 := Kd.R_putg HO309.out (a1 : Int) true) | ((with_reducible refine gate_store (t := 4) (p := 21) rfl ?_); refine store_event (t := 4) (p := 21) (v := ?vo_w19) (w1 := (w16.setCell ⟨go13, (a1 : Int).toNat, none⟩ (.bool true))) ?hg ?ho ?hn ?hr ?_; (case ho => rfl); (case hg => rfl); (case hn => rfl); (case hr => first | (go_simp; done) | (go_simp; rfl)); intro w19 hw; have hg : w16.grownBy w19 (some go13) := (by rw [hw]; exact HP18.2); have hp_ : Kd.R Kd.bool 4 w19 w.heap.size (fun _ => True) (.slice (some ⟨go13, 0, none⟩) y307.length co13) y310 := (by rw [hw, Ny310.out]; exact HP18.1); clear HP18; have n0_ := Aside0.mk (blk_grown (g := gb306) (o := .cells #[.slice A0_0 l0_0.length c0_0, .slice A0_1 l0_1.length c0_1] 26 (0, 0)) (by (with_reducible repeat (first | refine blk_drewN ?_ _ | refine blk_drew ?_ | refine blk_alloc ?_ _)); exact BK306.out) hg (Kd.R_ne HO309.out BK306.out (by decide))); have n1_ := Aside0.mk (hp_); have n2_ := Aside0.mk ((by rw [hw]; exact below_set (HB.out) GB13.out : Below w.heap.size w w19)); clear BK306; clear HO309; clear HB; have BK306 := n0_; have HO309 := n1_; have HB := n2_; clear n0_ n1_ n2_; clear hg hw hp_))
     go_loopg [8] k (fun kq v8 w' => ∃ (x7_1 : List Bool) (x8_1 : Int), v8 = .int .i64 x8_1 ∧ Aside0 (lockstepref06_Reach.l0 kq a2 x7_1 x8_1 l0_0 l0_1 = some r) ∧ Aside0 (kq ≤ k) ∧ Aside0 (Kd.R Kd.bool 4 w' w.heap.size (fun _ => True) (.slice (some ⟨go13, 0, none⟩) y307.length co13) x7_1) ∧ Aside0 (w'.heap[gb306]? = some (.cells #[(.slice A0_0 l0_0.length c0_0), (.slice A0_1 l0_1.length c0_1)] 26 (0, 0))) ∧ Aside0 (Below w.heap.size w w'))
     case atStart => exact ⟨(y310), (0), (by first | rfl | (simp; done) | (simp [*]; done)), H', ⟨Nat.le_refl _⟩, ⟨by (with_reducible repeat (first | apply Kd.R_alloc | apply Kd.R_drewN | apply Kd.R_drew)); first | exact HO309.out | exact Kd.R_mono HO309.out (fun _ hk e_ => hk (e_.trans own_len))⟩, ⟨by (with_reducible repeat (first | refine blk_drewN ?_ _ | refine blk_drew ?_ | refine blk_alloc ?_ _)); exact BK306.out⟩, ⟨B1_⟩⟩
     case round =>
      clear H'
      try clear c1
      try clear p1
      try clear q1
      try clear hx1
      try clear c2
      try clear p2
      try clear c4
      try clear c4b0
      try clear c4b1
      try clear c5
      try clear c5b0
      try clear c5b1
      try clear c6
      try clear c6b0
      try clear c6b1
      try clear c11
      try clear c11b0
      try clear c12
      try clear c12b0
      try clear p13
      try clear q13
      try clear hx13
      try clear hf13
      try clear hcz15_0
      try clear hcz15_1
      try clear hcz8_0
      try clear hcz8_1
      try clear hfz15_0
      try clear hfz15_1
      try clear hfz8_0
      try clear hfz8_1
      try clear hx13_0
      try clear p13
      try clear q13
      obtain ⟨x7_1, x8_1, rfl, HA, HK1, HO_7, BK306, HB⟩ := hrel
      have hl7_1 := (Kd.R_reads' HO_7.out).1
      rw [hl7_1] at HO_7
      (try simp only [hl7_1])
      (try simp only [hl7_1] at BK306)
      cases gk with
      | zero => exact absurd HA.out (by simp [lockstepref06_Reach.l0])
      | succ k1 =>
       have H := HA.out
       clear HA
       simp only [lockstepref06_Reach.l0] at H
       by_cases c20 : x8_1 < (x7_1.length : Int)
       ·rw [if_pos c20] at H
        have c20b0 : decide (x8_1 < (x7_1.length : Int)) = true := decide_eq_true c20
        clear c20
        have H' := Aside0.mk H
        clear H
        go_wp2
        go_loopg [9] k1 (fun kq v9 w' => ∃ (x7_2 : List Bool) (x9_2 : Int), v9 = .int .i64 x9_2 ∧ Aside0 (lockstepref06_Reach.l1 kq a2 x7_2 x8_1 x9_2 l0_0 l0_1 = some r) ∧ Aside0 (kq ≤ k1) ∧ Aside0 (Kd.R Kd.bool 4 w' w.heap.size (fun _ => True) (.slice (some ⟨go13, 0, none⟩) x7_1.length co13) x7_2) ∧ Aside0 (w'.heap[gb306]? = some (.cells #[(.slice A0_0 l0_0.length c0_0), (.slice A0_1 l0_1.length c0_1)] 26 (0, 0))) ∧ Aside0 (Below w.heap.size w w'))
        case atStart => exact ⟨(x7_1), (0), (by first | rfl | (simp; done) | (simp [*]; done)), H', ⟨Nat.le_refl _⟩, ⟨by (try simp only [hl7_1]); (with_reducible repeat (first | apply Kd.R_alloc | apply Kd.R_drewN | apply Kd.R_drew)); first | exact HO_7.out | exact Kd.R_mono HO_7.out (fun _ hk e_ => hk (e_.trans own_len))⟩, ⟨by (try simp only [hl7_1]); (with_reducible repeat (first | refine blk_drewN ?_ _ | refine blk_drew ?_ | refine blk_alloc ?_ _)); exact BK306.out⟩, ⟨B1_⟩⟩
        case round =>
         clear H'
         try clear c1
         try clear p1
         try clear q1
         try clear hx1
         try clear c2
         try clear p2
         try clear c4
         try clear c4b0
         try clear c4b1
         try clear c5
         try clear c5b0
         try clear c5b1
         try clear c6
         try clear c6b0
         try clear c6b1
         try clear c11
         try clear c11b0
         try clear c12
         try clear c12b0
         try clear p13
         try clear q13
         try clear hx13
         try clear hf13
         try clear c20
         try clear c20b0
         try clear hcz15_0
         try clear hcz15_1
         try clear hcz8_0
         try clear hcz8_1
         try clear hfz15_0
         try clear hfz15_1
         try clear hfz8_0
         try clear hfz8_1
         try clear hx13_0
         try clear p1
         try clear p13
         try clear p2
         try clear q1
         try clear q13
         obtain ⟨x7_2, x9_2, rfl, HA, HK2, HO_7, BK306, HB⟩ := hrel
         have hl7_2 := (Kd.R_reads' HO_7.out).1
         rw [hl7_2] at HO_7
         (try simp only [hl7_2])
         (try simp only [hl7_2] at BK306)
         cases gk with
         | zero => exact absurd HA.out (by simp [lockstepref06_Reach.l1])
         | succ k2 =>
          have H := HA.out
          clear HA
          simp only [lockstepref06_Reach.l1] at H
          by_cases c21 : x9_2 < (x7_2.length : Int)
          ·rw [if_pos c21] at H
           have c21b0 : decide (x9_2 < (x7_2.length : Int)) = true := decide_eq_true c21
           clear c21
           have H' := Aside0.mk H
           clear H
           go_wp2
           go_loopg [10] k2 (fun kq v10 w' => ∃ (x7_3 : List Bool) (x10_3 : Int), v10 = .int .i64 x10_3 ∧ Aside0 (lockstepref06_Reach.l2 kq a2 x7_3 x8_1 x9_2 x10_3 l0_0 l0_1 = some r) ∧ Aside0 (kq ≤ k2) ∧ Aside0 (Kd.R Kd.bool 4 w' w.heap.size (fun _ => True) (.slice (some ⟨go13, 0, none⟩) x7_2.length co13) x7_3) ∧ Aside0 (w'.heap[gb306]? = some (.cells #[(.slice A0_0 l0_0.length c0_0), (.slice A0_1 l0_1.length c0_1)] 26 (0, 0))) ∧ Aside0 (Below w.heap.size w w'))
           case atStart => exact ⟨(x7_2), (0), (by first | rfl | (simp; done) | (simp [*]; done)), H', ⟨Nat.le_refl _⟩, ⟨by (try simp only [hl7_1]); (try simp only [hl7_2]); (with_reducible repeat (first | apply Kd.R_alloc | apply Kd.R_drewN | apply Kd.R_drew)); first | exact HO_7.out | exact Kd.R_mono HO_7.out (fun _ hk e_ => hk (e_.trans own_len))⟩, ⟨by (try simp only [hl7_1]); (try simp only [hl7_2]); (with_reducible repeat (first | refine blk_drewN ?_ _ | refine blk_drew ?_ | refine blk_alloc ?_ _)); exact BK306.out⟩, ⟨B1_⟩⟩
           case round =>
            clear H'
            try clear c1
            try clear p1
            try clear q1
            try clear hx1
            try clear c2
            try clear p2
            try clear c4
            try clear c4b0
            try clear c4b1
            try clear c5
            try clear c5b0
            try clear c5b1
            try clear c6
            try clear c6b0
            try clear c6b1
            try clear c11
            try clear c11b0
            try clear c12
            try clear c12b0
            try clear p13
            try clear q13
            try clear hx13
            try clear hf13
            try clear c20
            try clear c20b0
            try clear c21
            try clear c21b0
            try clear hcz15_0
            try clear hcz15_1
            try clear hcz8_0
            try clear hcz8_1
            try clear hfz15_0
            try clear hfz15_1
            try clear hfz8_0
            try clear hfz8_1
            try clear hx13_0
            try clear p1
            try clear p13
            try clear p2
            try clear q1
            try clear q13
            obtain ⟨x7_3, x10_3, rfl, HA, HK3, HO_7, BK306, HB⟩ := hrel
            have hl7_3 := (Kd.R_reads' HO_7.out).1
            rw [hl7_3] at HO_7
            (try simp only [hl7_3])
            (try simp only [hl7_3] at BK306)
            cases gk with
            | zero => exact absurd HA.out (by simp [lockstepref06_Reach.l2])
            | succ k3 =>
             have H := HA.out
             clear HA
             simp only [lockstepref06_Reach.l2] at H
             have HC22 := Aside0.mk H
             clear H
             go_upto_region 12 with (fail)
             go_cut [47] (fun v47 wc => ∃ (kq : Nat) (x47_21 : Bool), v47 = .bool x47_21 ∧ Aside0 (lockstepref06_Reach.j3 kq a2 x7_3 x8_1 x9_2 x10_3 x47_21 l0_0 l0_1 = some r) ∧ Aside0 (kq ≤ k3) ∧ Aside0 (Kd.R Kd.bool 4 wc w.heap.size (fun _ => True) (.slice (some ⟨go13, 0, none⟩) x7_3.length co13) x7_3) ∧ Aside0 (wc.heap[gb306]? = some (.cells #[(.slice A0_0 l0_0.length c0_0), (.slice A0_1 l0_1.length c0_1)] 26 (0, 0))) ∧ Aside0 (Below w.heap.size w wc))
             case first =>
              have H := HC22.out
              clear HC22
              by_cases c23 : 0 ≤ x9_2
              ·rw [if_pos c23] at H
               have c23b0 : decide (0 ≤ x9_2) = true := decide_eq_true c23
               clear c23
               (first | rw [c23b0] | (simp only [i64_w, i32_w]; rw [c23b0]) | skip)
               by_cases c24 : x9_2 < (x7_3.length : Int)
               ·rw [if_pos c24] at H
                have c24b0 : decide (x9_2 < (x7_3.length : Int)) = true := decide_eq_true c24
                clear c24
                obtain ⟨bq25, hbq25⟩ : ∃ b_ : Bool, b_ = (rdOf false x7_3 x9_2) := ⟨_, rfl⟩
                replace H : (if bq25 = true then (if x9_2 < (l0_0.length : Int) then (lockstepref06_Reach.j3 k3 a2 x7_3 x8_1 x9_2 x10_3 (decide (x10_3 < ((rd_L1 l0_0 x9_2).length : Int))) l0_0 l0_1) else (none)) else (lockstepref06_Reach.j3 k3 a2 x7_3 x8_1 x9_2 x10_3 false l0_0 l0_1)) = some r := by rw [← hbq25] at H; exact H
                have Nbq25 := Aside0.mk hbq25
                clear hbq25
                by_cases c26 : bq25 = true
                ·subst c26
                 have H1 : (if x9_2 < (l0_0.length : Int) then (lockstepref06_Reach.j3 k3 a2 x7_3 x8_1 x9_2 x10_3 (decide (x10_3 < ((rd_L1 l0_0 x9_2).length : Int))) l0_0 l0_1) else (none)) = some r := by rw [if_pos rfl] at H; exact H
                 clear H
                 have H := H1
                 clear H1
                 by_cases c27 : x9_2 < (l0_0.length : Int)
                 ·rw [if_pos c27] at H
                  have c27b0 : decide (x9_2 < (l0_0.length : Int)) = true := decide_eq_true c27
                  clear c27
                  have H' := Aside0.mk H
                  clear H
                  have p311 : 0 ≤ (x9_2 : Int) := D_
                  have q311 : x9_2 < (x7_3.length : Int) := D_
                  obtain ⟨ad311, e311, hx311_0⟩ := Kd.at_bool (Kd.R_reads' HO_7.out).2.2 x9_2 p311 q311
                  (try rw [← Nbq25.out] at hx311_0)
                  obtain rfl : (⟨go13, 0, none⟩ : Addr) = ad311 := (by injection e311)
                  (first | simp only [add_plain] at hx311_0 | simp only [add_at] at hx311_0 | simp only [Addr.add, Nat.zero_add] at hx311_0 | skip)
                  replace p311 := eq_true p311
                  replace q311 := eq_true q311
                  have hcz28_0 : wr.cell? ⟨gb306, 0, none⟩ = some (.slice A0_0 l0_0.length c0_0) := (blk_cell BK306.out 0).trans rfl
                  have hcz28_1 : wr.cell? ⟨gb306, 1, none⟩ = some (.slice A0_1 l0_1.length c0_1) := (blk_cell BK306.out 1).trans rfl
                  have hfz28_0 := blk_frozen BK306.out 0
                  have hfz28_1 := blk_frozen BK306.out 1
                  have p312 : 0 ≤ (x9_2 : Int) := D_
                  have q312 : x9_2 < (l0_0.length : Int) := D_
                  obtain ⟨ad312, A312_0, c312_0, e312, hx312_0, hl312_0, hi312_0⟩ := at_L1 HR0_0.out x9_2 p312 q312
                  cases e312
                  replace hx312_0 := (HB.out.cell (World.block_lt_of_cell? w _ hx312_0)).trans hx312_0
                  have HR312_0 := Aside0.mk hi312_0
                  have HC312_0 := Aside0.mk hl312_0
                  clear hi312_0 hl312_0
                  replace p312 := eq_true p312
                  replace q312 := eq_true q312
                  go_wp2
                  go_meet
                  case rel => exact ⟨_, (decide (x10_3 < ((rd_L1 l0_0 x9_2).length : Int))), (by first | rfl | (simp; done) | (simp [*]; done)), H', ⟨by have := HK1.out; have := HK2.out; have := HK3.out; first | omega | exact Nat.le_refl _⟩, ⟨by (try simp only [hl7_1]); (try simp only [hl7_2]); (try simp only [hl7_3]); (with_reducible repeat (first | apply Kd.R_alloc | apply Kd.R_drewN | apply Kd.R_drew)); first | exact HO_7.out | exact Kd.R_mono HO_7.out (fun _ hk e_ => hk (e_.trans own_len))⟩, ⟨by (try simp only [hl7_1]); (try simp only [hl7_2]); (try simp only [hl7_3]); (with_reducible repeat (first | refine blk_drewN ?_ _ | refine blk_drew ?_ | refine blk_alloc ?_ _)); exact BK306.out⟩, ⟨B1_⟩⟩
                 rw [if_neg c27] at H
                 exact absurd H (by simp)
                replace c26 := Bool.eq_false_iff.mpr c26
                subst c26
                have H1 : (lockstepref06_Reach.j3 k3 a2 x7_3 x8_1 x9_2 x10_3 false l0_0 l0_1) = some r := by rw [if_neg (show ¬ (false = true) by decide)] at H; exact H
                clear H
                have H := H1
                clear H1
                have H' := Aside0.mk H
                clear H
                have p311 : 0 ≤ (x9_2 : Int) := D_
                have q311 : x9_2 < (x7_3.length : Int) := D_
                obtain ⟨ad311, e311, hx311_0⟩ := Kd.at_bool (Kd.R_reads' HO_7.out).2.2 x9_2 p311 q311
                (try rw [← Nbq25.out] at hx311_0)
                obtain rfl : (⟨go13, 0, none⟩ : Addr) = ad311 := (by injection e311)
                (first | simp only [add_plain] at hx311_0 | simp only [add_at] at hx311_0 | simp only [Addr.add, Nat.zero_add] at hx311_0 | skip)
                replace p311 := eq_true p311
                replace q311 := eq_true q311
                go_wp2
                go_meet
                case rel => exact ⟨_, (false), (by first | rfl | (simp; done) | (simp [*]; done)), H', ⟨by have := HK1.out; have := HK2.out; have := HK3.out; first | omega | exact Nat.le_refl _⟩, ⟨by (try simp only [hl7_1]); (try simp only [hl7_2]); (try simp only [hl7_3]); (with_reducible repeat (first | apply Kd.R_alloc | apply Kd.R_drewN | apply Kd.R_drew)); first | exact HO_7.out | exact Kd.R_mono HO_7.out (fun _ hk e_ => hk (e_.trans own_len))⟩, ⟨by (try simp only [hl7_1]); (try simp only [hl7_2]); (try simp only [hl7_3]); (with_reducible repeat (first | refine blk_drewN ?_ _ | refine blk_drew ?_ | refine blk_alloc ?_ _)); exact BK306.out⟩, ⟨B1_⟩⟩
               rw [if_neg c24] at H
               exact absurd H (by simp)
              rw [if_neg c23] at H
              exact absurd H (by simp)
             case rest =>
              clear HC22
              try clear c1
              try clear p1
              try clear q1
              try clear hx1
              try clear c2
              try clear p2
              try clear q2
              try clear c3
              try clear p3
              try clear q3
              try clear hx3
              try clear c4
              try clear c4b0
              try clear c4b1
              try clear c5
              try clear c5b0
              try clear c5b1
              try clear c6
              try clear c6b0
              try clear c6b1
              try clear c11
              try clear c11b0
              try clear c12
              try clear c12b0
              try clear p13
              try clear q13
              try clear hx13
              try clear hf13
              try clear c20
              try clear c20b0
              try clear c21
              try clear c21b0
              try clear c22
              try clear c23
              try clear c23b0
              try clear c24
              try clear c24b0
              try clear q25
              try clear c26
              try clear c27
              try clear c27b0
              try clear hcz15_0
              try clear hcz15_1
              try clear hcz28_0
              try clear hcz28_1
              try clear hcz8_0
              try clear hcz8_1
              try clear hfz15_0
              try clear hfz15_1
              try clear hfz28_0
              try clear hfz28_1
              try clear hfz8_0
              try clear hfz8_1
              try clear hx13_0
              try clear hx311_0
              try clear hx312_0
              try clear p1
              try clear p13
              try clear p2
              try clear p311
              try clear p312
              try clear q1
              try clear q13
              try clear q311
              try clear q312
              obtain ⟨kq, x47_21, rfl, HA, HJ21, HO_7, BK306, HB⟩ := hcut
              cases kq with
              | zero => exact absurd HA.out (by simp [lockstepref06_Reach.j3])
              | succ kj21 =>
               have H := HA.out
               clear HA
               simp only [lockstepref06_Reach.j3] at H
               by_cases c29 : x47_21 = true
               ·subst c29
                have H1 : (if 0 ≤ x9_2 then (if x9_2 < (l0_0.length : Int) then (if 0 ≤ x10_3 then (if x10_3 < ((rd_L1 l0_0 x9_2).length : Int) then (if (rd (rd_L1 l0_0 x9_2) x10_3) = a2 then (lockstepref06_Reach.l2 kj21 a2 x7_3 x8_1 x9_2 (wrap64 (x10_3 + 1)) l0_0 l0_1) else (if 0 ≤ (rd (rd_L1 l0_0 x9_2) x10_3) then (if (rd (rd_L1 l0_0 x9_2) x10_3) < (x7_3.length : Int) then (lockstepref06_Reach.l2 kj21 a2 (x7_3.set ((rd (rd_L1 l0_0 x9_2) x10_3) : Int).toNat true) x8_1 x9_2 (wrap64 (x10_3 + 1)) l0_0 l0_1) else (none)) else (none))) else (none)) else (none)) else (none)) else (none)) = some r := by rw [if_pos rfl] at H; exact H
                clear H
                have H := H1
                clear H1
                by_cases c30 : 0 ≤ x9_2
                ·rw [if_pos c30] at H
                 have c30b0 : decide (0 ≤ x9_2) = true := decide_eq_true c30
                 clear c30
                 by_cases c31 : x9_2 < (l0_0.length : Int)
                 ·rw [if_pos c31] at H
                  have c31b0 : decide (x9_2 < (l0_0.length : Int)) = true := decide_eq_true c31
                  clear c31
                  by_cases c32 : 0 ≤ x10_3
                  ·rw [if_pos c32] at H
                   have c32b0 : decide (0 ≤ x10_3) = true := decide_eq_true c32
                   clear c32
                   by_cases c33 : x10_3 < ((rd_L1 l0_0 x9_2).length : Int)
                   ·rw [if_pos c33] at H
                    have c33b0 : decide (x10_3 < ((rd_L1 l0_0 x9_2).length : Int)) = true := decide_eq_true c33
                    clear c33
                    by_cases c34 : (rd (rd_L1 l0_0 x9_2) x10_3) = a2
                    ·rw [if_pos c34] at H
                     have c34b0 : ((rd (rd_L1 l0_0 x9_2) x10_3) == a2) = true := beq_iff_eq.mpr c34
                     have c34b1 : ((rd (rd_L1 l0_0 x9_2) x10_3) != a2) = false := bne_eq_false_iff_eq.mpr c34
                     clear c34
                     have H' := Aside0.mk H
                     clear H
                     have hcz35_0 : wc.cell? ⟨gb306, 0, none⟩ = some (.slice A0_0 l0_0.length c0_0) := (blk_cell BK306.out 0).trans rfl
                     have hcz35_1 : wc.cell? ⟨gb306, 1, none⟩ = some (.slice A0_1 l0_1.length c0_1) := (blk_cell BK306.out 1).trans rfl
                     have hfz35_0 := blk_frozen BK306.out 0
                     have hfz35_1 := blk_frozen BK306.out 1
                     have p313 : 0 ≤ (x9_2 : Int) := D_
                     have q313 : x9_2 < (l0_0.length : Int) := D_
                     obtain ⟨ad313, A313_0, c313_0, e313, hx313_0, hl313_0, hi313_0⟩ := at_L1 HR0_0.out x9_2 p313 q313
                     cases e313
                     replace hx313_0 := (HB.out.cell (World.block_lt_of_cell? w _ hx313_0)).trans hx313_0
                     have HR313_0 := Aside0.mk hi313_0
                     have HC313_0 := Aside0.mk hl313_0
                     clear hi313_0 hl313_0
                     replace p313 := eq_true p313
                     replace q313 := eq_true q313
                     have p314 : 0 ≤ (x10_3 : Int) := D_
                     have q314 : x10_3 < ((rd_L1 l0_0 x9_2).length : Int) := D_
                     obtain ⟨ad314, e314, hx314_0⟩ := Kd.at_int HR313_0.out x10_3 p314 q314
                     cases e314
                     replace hx314_0 := (HB.out.cell (World.block_lt_of_cell? w _ hx314_0)).trans hx314_0
                     replace p314 := eq_true p314
                     replace q314 := eq_true q314
                     go_wp2
                     (try simp only [← hl7_3])
                     go_roundg kj21
                     case measure => have := HK1.out; have := HK2.out; have := HK3.out; have := HJ21.out; omega
                     case rel => exact ⟨(x7_3), (wrap64 (x10_3 + 1)), (by first | rfl | (simp; done) | (simp [*]; done)), H', ⟨by have := HK1.out; have := HK2.out; have := HK3.out; have := HJ21.out; omega⟩, ⟨by (try simp only [hl7_1]); (try simp only [hl7_2]); (try simp only [hl7_3]); (with_reducible repeat (first | apply Kd.R_alloc | apply Kd.R_drewN | apply Kd.R_drew)); first | exact HO_7.out | exact Kd.R_mono HO_7.out (fun _ hk e_ => hk (e_.trans own_len))⟩, ⟨by (try simp only [hl7_1]); (try simp only [hl7_2]); (try simp only [hl7_3]); (with_reducible repeat (first | refine blk_drewN ?_ _ | refine blk_drew ?_ | refine blk_alloc ?_ _)); exact BK306.out⟩, ⟨B1_⟩⟩
                    rw [if_neg c34] at H
                    have c34b0 : ((rd (rd_L1 l0_0 x9_2) x10_3) == a2) = false := beq_eq_false_iff_ne.mpr c34
                    have c34b1 : ((rd (rd_L1 l0_0 x9_2) x10_3) != a2) = true := bne_iff_ne.mpr c34
                    by_cases c36 : 0 ≤ (rd (rd_L1 l0_0 x9_2) x10_3)
                    ·rw [if_pos c36] at H
                     have c36b0 : decide (0 ≤ (rd (rd_L1 l0_0 x9_2) x10_3)) = true := decide_eq_true c36
                     clear c36
                     by_cases c37 : (rd (rd_L1 l0_0 x9_2) x10_3) < (x7_3.length : Int)
                     ·rw [if_pos c37] at H
                      have c37b0 : decide ((rd (rd_L1 l0_0 x9_2) x10_3) < (x7_3.length : Int)) = true := decide_eq_true c37
                      clear c37
                      obtain ⟨y317, hy317⟩ : ∃ y_ : List Bool, y_ = (x7_3.set ((rd (rd_L1 l0_0 x9_2) x10_3) : Int).toNat true) := ⟨_, rfl⟩
                      replace H : (lockstepref06_Reach.l2 kj21 a2 y317 x8_1 x9_2 (wrap64 (x10_3 + 1)) l0_0 l0_1) = some r := by first | (rw [hy317]; with_reducible exact H) | (have H2_ := (Option.bind_some _ _).symm.trans H; rw [hy317]; with_reducible exact H2_) | (have H2_ := (Option.bind_some _ _).symm.trans H; with_reducible exact H2_) | with_reducible exact H | (rw [hy317]; exact H) | exact H
                      have Ny317 := Aside0.mk hy317
                      clear hy317
                      have H' := Aside0.mk H
                      clear H
                      have hcz39_0 : wc.cell? ⟨gb306, 0, none⟩ = some (.slice A0_0 l0_0.length c0_0) := (blk_cell BK306.out 0).trans rfl
                      have hcz39_1 : wc.cell? ⟨gb306, 1, none⟩ = some (.slice A0_1 l0_1.length c0_1) := (blk_cell BK306.out 1).trans rfl
                      have hfz39_0 := blk_frozen BK306.out 0
                      have hfz39_1 := blk_frozen BK306.out 1
                      have p313 : 0 ≤ (x9_2 : Int) := D_
                      have q313 : x9_2 < (l0_0.length : Int) := D_
                      obtain ⟨ad313, A313_0, c313_0, e313, hx313_0, hl313_0, hi313_0⟩ := at_L1 HR0_0.out x9_2 p313 q313
                      cases e313
                      replace hx313_0 := (HB.out.cell (World.block_lt_of_cell? w _ hx313_0)).trans hx313_0
                      have HR313_0 := Aside0.mk hi313_0
                      have HC313_0 := Aside0.mk hl313_0
                      clear hi313_0 hl313_0
                      replace p313 := eq_true p313
                      replace q313 := eq_true q313
                      have p314 : 0 ≤ (x10_3 : Int) := D_
                      have q314 : x10_3 < ((rd_L1 l0_0 x9_2).length : Int) := D_
                      obtain ⟨ad314, e314, hx314_0⟩ := Kd.at_int HR313_0.out x10_3 p314 q314
                      cases e314
                      replace hx314_0 := (HB.out.cell (World.block_lt_of_cell? w _ hx314_0)).trans hx314_0
                      replace p314 := eq_true p314
                      replace q314 := eq_true q314
                      have p315 : 0 ≤ (x9_2 : Int) := D_
                      have q315 : x9_2 < (l0_0.length : Int) := D_
                      obtain ⟨ad315, A315_0, c315_0, e315, hx315_0, hl315_0, hi315_0⟩ := at_L1 HR0_0.out x9_2 p315 q315
                      obtain rfl : ad313 = ad315 := (by injection e315)
                      replace hx315_0 := (HB.out.cell (World.block_lt_of_cell? w _ hx315_0)).trans hx315_0
                      have HR315_0 := Aside0.mk hi315_0
                      have HC315_0 := Aside0.mk hl315_0
                      clear hi315_0 hl315_0
                      replace p315 := eq_true p315
                      replace q315 := eq_true q315
                      have ea_ := Option.some.inj (hx313_0.symm.trans hx315_0)
                      injection ea_ with ea_ en_ ec_
                      subst ea_
                      subst ec_
                      clear en_
                      have p316 : 0 ≤ (x10_3 : Int) := D_
                      have q316 : x10_3 < ((rd_L1 l0_0 x9_2).length : Int) := D_
                      obtain ⟨ad316, e316, hx316_0⟩ := Kd.at_int HR315_0.out x10_3 p316 q316
                      cases e316
                      replace hx316_0 := (HB.out.cell (World.block_lt_of_cell? w _ hx316_0)).trans hx316_0
                      replace p316 := eq_true p316
                      replace q316 := eq_true q316
                      have p38 : 0 ≤ ((rd (rd_L1 l0_0 x9_2) x10_3) : Int) := D_
                      have q38 : ((rd (rd_L1 l0_0 x9_2) x10_3) : Int) < ((x7_3.length : Int) : Int) := D_
                      obtain ⟨hx38_0, hf38_0⟩ := Kd.R_celln false HO_7.out ((rd (rd_L1 l0_0 x9_2) x10_3) : Int) p38 q38
                      replace p38 := eq_true p38
                      replace q38 := eq_true q38
                      have HP40 := Kd.R_putg HO_7.out ((rd (rd_L1 l0_0 x9_2) x10_3) : Int) true
                      go_wp2_with (first | ((with_reducible refine gate_store (t := 4) (p := 69) rfl ?_); refine store_event (t := 4) (p := 69) (v := ?vo_w41) (w1 := (wc.setCell ⟨go13, ((rd (rd_L1 l0_0 x9_2) x10_3) : Int).toNat, none⟩ (.bool true))) ?hg ?ho ?hn ?hr ?_; (case ho => rfl); (case hg => rfl); (case hn => rfl); (case hr => first | (go_simp; done) | (go_simp; rfl)); intro w41 hw; have hg : wc.grownBy w41 (some go13) := (by rw [hw]; exact HP40.2); have hp_ : Kd.R Kd.bool 4 w41 w.heap.size (fun _ => True) (.slice (some ⟨go13, 0, none⟩) x7_3.length co13) y317 := (by rw [hw, Ny317.out]; exact HP40.1); clear HP40; have n0_ := Aside0.mk (hp_); have n1_ := Aside0.mk (blk_grown (g := gb306) (o := .cells #[.slice (some ad313) l0_0.length c0_0, .slice A0_1 l0_1.length c0_1] 26 (0, 0)) (by (with_reducible repeat (first | refine blk_drewN ?_ _ | refine blk_drew ?_ | refine blk_alloc ?_ _)); exact BK306.out) hg (Kd.R_ne HO_7.out BK306.out (by decide))); have n2_ := Aside0.mk ((by rw [hw]; exact below_set (HB.out) GB13.out : Below w.heap.size w w41)); clear HO_7; clear BK306; clear HB; have HO_7 := n0_; have BK306 := n1_; have HB := n2_; clear n0_ n1_ n2_; clear hg hw hp_))
                      (try simp only [← hl7_3])
                      go_roundg kj21
                      case measure => have := HK1.out; have := HK2.out; have := HK3.out; have := HJ21.out; omega
                      case rel => exact ⟨(y317), (wrap64 (x10_3 + 1)), (by first | rfl | (simp; done) | (simp [*]; done)), H', ⟨by have := HK1.out; have := HK2.out; have := HK3.out; have := HJ21.out; omega⟩, ⟨by (try simp only [hl7_1]); (try simp only [hl7_2]); (try simp only [hl7_3]); (with_reducible repeat (first | apply Kd.R_alloc | apply Kd.R_drewN | apply Kd.R_drew)); first | exact HO_7.out | exact Kd.R_mono HO_7.out (fun _ hk e_ => hk (e_.trans own_len))⟩, ⟨by (try simp only [hl7_1]); (try simp only [hl7_2]); (try simp only [hl7_3]); (with_reducible repeat (first | refine blk_drewN ?_ _ | refine blk_drew ?_ | refine blk_alloc ?_ _)); exact BK306.out⟩, ⟨B1_⟩⟩
                     rw [if_neg c37] at H
                     exact absurd H (by simp)
                    rw [if_neg c36] at H
                    exact absurd H (by simp)
                   rw [if_neg c33] at H
                   exact absurd H (by simp)
                  rw [if_neg c32] at H
                  exact absurd H (by simp)
                 rw [if_neg c31] at H
                 exact absurd H (by simp)
                rw [if_neg c30] at H
                exact absurd H (by simp)
               replace c29 := Bool.eq_false_iff.mpr c29
               subst c29
               have H1 : (lockstepref06_Reach.l1 kj21 a2 x7_3 x8_1 (wrap64 (x9_2 + 1)) l0_0 l0_1) = some r := by rw [if_neg (show ¬ (false = true) by decide)] at H; exact H
               clear H
               have H := H1
               clear H1
               have H' := Aside0.mk H
               clear H
               go_wp2
               (try simp only [← hl7_2, ← hl7_3])
               go_roundg kj21
               case measure => have := HK1.out; have := HK2.out; have := HK3.out; have := HJ21.out; omega
               case rel => exact ⟨(x7_3), (wrap64 (x9_2 + 1)), (by first | rfl | (simp; done) | (simp [*]; done)), H', ⟨by have := HK1.out; have := HK2.out; have := HK3.out; have := HJ21.out; omega⟩, ⟨by (try simp only [hl7_1]); (try simp only [hl7_2]); (try simp only [hl7_3]); (with_reducible repeat (first | apply Kd.R_alloc | apply Kd.R_drewN | apply Kd.R_drew)); first | exact HO_7.out | exact Kd.R_mono HO_7.out (fun _ hk e_ => hk (e_.trans own_len))⟩, ⟨by (try simp only [hl7_1]); (try simp only [hl7_2]); (try simp only [hl7_3]); (with_reducible repeat (first | refine blk_drewN ?_ _ | refine blk_drew ?_ | refine blk_alloc ?_ _)); exact BK306.out⟩, ⟨B1_⟩⟩
          rw [if_neg c21] at H
          have c21b0 : decide (x9_2 < (x7_2.length : Int)) = false := decide_eq_false c21
          clear c21
          have H' := Aside0.mk H
          clear H
          go_wp2
          (try simp only [← hl7_1, ← hl7_2])
          go_roundg k2
          case measure => have := HK1.out; have := HK2.out; omega
          case rel => exact ⟨(x7_2), (wrap64 (x8_1 + 1)), (by first | rfl | (simp; done) | (simp [*]; done)), H', ⟨by have := HK1.out; have := HK2.out; omega⟩, ⟨by (try simp only [hl7_1]); (try simp only [hl7_2]); (with_reducible repeat (first | apply Kd.R_alloc | apply Kd.R_drewN | apply Kd.R_drew)); first | exact HO_7.out | exact Kd.R_mono HO_7.out (fun _ hk e_ => hk (e_.trans own_len))⟩, ⟨by (try simp only [hl7_1]); (try simp only [hl7_2]); (with_reducible repeat (first | refine blk_drewN ?_ _ | refine blk_drew ?_ | refine blk_alloc ?_ _)); exact BK306.out⟩, ⟨B1_⟩⟩
       rw [if_neg c20] at H
       have c20b0 : decide (x8_1 < (x7_1.length : Int)) = false := decide_eq_false c20
       clear c20
       obtain rfl := Option.some.inj H
       go_wp2
       go_ret
       exact ⟨_, by first | rfl | (simp [errW_none, errW_some] <;> rfl) | (simp [*, errW_none, errW_some] <;> rfl), by (with_reducible repeat (first | apply Kd.R_alloc | apply Kd.R_drewN | apply Kd.R_drew)); exact HO_7.out, B1_⟩
    rw [if_neg c12] at H
    exact absurd H (by simp)
   rw [if_neg c11] at H
   exact absurd H (by simp)
  rw [if_neg c5] at H
  exact absurd H (by simp)
 rw [if_neg c4] at H
 exact absurd H (by simp)

end Go.Proofs.Ythahaajmgnoebaa.G
namespace Go.Proofs.Ythahaajmgnoebaa.GP
open Go.RowKit Go.Proofs.Ythahaajmgnoebaa.G Go.Proofs.YthahaajmgnoebaaW.PrintWords

theorem awake_ok : locksteplaw07_awake.f 100 = some true := by decide +kernel
theorem awake_ev : Ev (fun k => locksteplaw07_awake.f k) true := Ev.of_at (fun k => locksteplaw07_awake.mono k) awake_ok

theorem small_l0 (d : Nat) : ∀ (i : Nat) (s : List (List Int)), s.length ≤ big → i ≤ s.length → s.length - i = d → i ≤ 101 →
    ∃ b, Ev (fun k => lockstepref06_Small.l0 k s (i : Int)) b ∧ (b = true → s.length ≤ 101 ∧ ∀ l ∈ s.drop i, l.length ≤ 100) := by
  induction d with
  | zero =>
    intro i s hb hi hd h1
    refine ⟨true, Ev.succ ?_, fun _ => ⟨by omega, by rw [List.drop_of_length_le (by omega)]; simp⟩⟩
    simp only [lockstepref06_Small.l0]
    exact Ev.ifn (by omega) Ev.pure
  | succ d ih =>
    intro i s hb hi hd h1
    have hbb : big = 9223372036854775807 := rfl
    have hrd : rd_L1 s (i : Int) = s.getD i [] := by simp [rd_L1]
    by_cases hc : ((s.getD i []).length : Int) > 100
    · refine ⟨false, Ev.succ ?_, fun h => by cases h⟩
      simp only [lockstepref06_Small.l0]
      refine Ev.ifp (by omega) (Ev.ifp (by omega) (Ev.ifp (by rw [hrd]; exact hc) Ev.pure))
    · by_cases hc2 : (i : Int) > 100
      · refine ⟨false, Ev.succ ?_, fun h => by cases h⟩
        simp only [lockstepref06_Small.l0]
        refine Ev.ifp (by omega) (Ev.ifp (by omega) (Ev.ifn (by rw [hrd]; exact hc) (Ev.ifp hc2 Ev.pure)))
      · obtain ⟨b, he, hb'⟩ := ih (i + 1) s hb (by omega) (by omega) (by omega)
        refine ⟨b, Ev.succ ?_, fun h => ⟨(hb' h).1, ?_⟩⟩
        · simp only [lockstepref06_Small.l0]
          refine Ev.ifp (by omega) (Ev.ifp (by omega) (Ev.ifn (by rw [hrd]; exact hc) (Ev.ifn hc2 ?_)))
          rw [wrap_nat (by omega)]; exact he
        · rw [drop_getD s i [] (by omega)]
          intro l hl
          rcases List.mem_cons.mp hl with e | e
          · subst e; omega
          · exact (hb' h).2 l e
theorem small_ev (s : List (List Int)) (hb : s.length ≤ big) : ∃ b, Ev (fun k => lockstepref06_Small.f k s) b ∧ (b = true → s.length ≤ 101 ∧ ∀ l ∈ s, l.length ≤ 100) := by
  obtain ⟨b, h1, h2⟩ := small_l0 s.length 0 s hb (by omega) (by omega) (by omega)
  exact ⟨b, by unfold lockstepref06_Small.f; simpa using h1, by simpa using h2⟩

/-! #### Reach -/
def rbn (n : Nat) (s : Sn) : List Bool := (List.range n).map s
@[simp] theorem rbn_length (n : Nat) (s : Sn) : (rbn n s).length = n := by simp [rbn]
theorem rd_rbn (n : Nat) (s : Sn) {y : Nat} (h : y < n) : rdOf false (rbn n s) (y : Int) = s y := by
  simp only [rdOf, Int.toNat_natCast, rbn]; exact getD_map_range _ _ _ _ h
theorem set_rbn (n : Nat) (s : Sn) (y : Nat) : (rbn n s).set y true = rbn n (upd s y) :=
  set_map_range _ _ _ _ _ (by simp [upd]) (fun j hj => by simp [upd, hj])
/-- No way leads out of it. -/
def Closed (S : List (List Nat)) (w : Int) (C : Nat → Prop) : Prop := ∀ a, C a → ∀ y ∈ S.getD a [], (y : Int) ≠ w → C y
def Sub (S : List (List Nat)) (w : Int) (X Y : Sn) : Prop := (∀ z, X z = true → Y z = true) ∧ ∀ C, Closed S w C → (∀ z, X z = true → C z) → ∀ z, Y z = true → C z
theorem Sub.refl (S : List (List Nat)) (w : Int) (X : Sn) : Sub S w X X := ⟨fun _ h => h, fun _ _ h => h⟩
theorem Sub.trans {S : List (List Nat)} {w : Int} {X Y Z : Sn} (h1 : Sub S w X Y) (h2 : Sub S w Y Z) : Sub S w X Z :=
  ⟨fun z h => h2.1 z (h1.1 z h), fun C hC h => h2.2 C hC (h1.2 C hC h)⟩

theorem reach_l2 {S : List (List Nat)} (h : Gr S) (P : List (List Int)) (w : Int) (t i : Nat) (hi : i < S.length) (v : List Bool) (d : Nat) :
    ∀ (j : Nat) (X : Sn), (S.getD i []).length - j = d → j ≤ (S.getD i []).length →
    (∀ Y, Sub S w X Y → (X i = true → ∀ y ∈ (S.getD i []).drop j, (y : Int) ≠ w → Y y = true) → Ev (fun k => lockstepref06_Reach.l1 k w (rbn S.length Y) (t : Int) ((i + 1 : Nat) : Int) (up2 S) P) v) →
    Ev (fun k => lockstepref06_Reach.l2 k w (rbn S.length X) (t : Int) (i : Int) (j : Int) (up2 S) P) v := by
  have hle := h.le
  have hdeg := gr_len h hi
  induction d with
  | zero =>
    intro j X hd hj hK
    have hK' := hK X (Sub.refl _ _ _) (fun _ y hy => by rw [List.drop_of_length_le (by omega)] at hy; cases hy)
    have hj3 : Ev (fun k => lockstepref06_Reach.j3 k w (rbn S.length X) (t : Int) (i : Int) (j : Int) false (up2 S) P) v := by
      refine Ev.succ ?_; simp only [lockstepref06_Reach.j3]
      refine Ev.ifn (by decide) ?_
      rw [wrap_nat (by omega)]; exact hK'
    refine Ev.succ ?_; simp only [lockstepref06_Reach.l2]
    rw [rd_rbn _ _ hi, rdL_up, up_length]
    refine Ev.ifp (by omega) (Ev.ifp (by rw [rbn_length]; omega) ?_)
    by_cases hX : X i = true
    · refine Ev.ifp hX (Ev.ifp (by rw [up2_length]; omega) ?_)
      rw [decide_eq_false (by omega)]; exact hj3
    · exact Ev.ifn hX hj3
  | succ d ih =>
    intro j X hd hj hK
    have hj1 : j < (S.getD i []).length := by omega
    have hy := (h.row i hi).2 _ (getD_mem (d := 0) hj1)
    refine Ev.succ ?_; simp only [lockstepref06_Reach.l2]
    rw [rd_rbn _ _ hi, rdL_up, up_length]
    refine Ev.ifp (by omega) (Ev.ifp (by rw [rbn_length]; omega) ?_)
    by_cases hX : X i = true
    · refine Ev.ifp hX (Ev.ifp (by rw [up2_length]; omega) ?_)
      rw [decide_eq_true (by omega)]
      refine Ev.succ ?_; simp only [lockstepref06_Reach.j3]
      rw [rdL_up, up_length, rd_up]
      have hdr := drop_getD (S.getD i []) j 0 hj1
      have hmem : (S.getD i []).getD j 0 ∈ S.getD i [] := getD_mem hj1
      generalize (S.getD i []).getD j 0 = y at hy hdr hmem
      rw [hdr] at hK
      refine Ev.ifp trivial (Ev.ifp (by omega) (Ev.ifp (by rw [up2_length]; omega) (Ev.ifp (by omega) (Ev.ifp (by omega) ?_))))
      by_cases hw : (y : Int) = w
      · refine Ev.ifp hw ?_
        rw [wrap_nat (by omega)]
        refine ih (j + 1) X (by omega) (by omega) (fun Y hY hYi => hK Y hY (fun hXi z hz hzw => ?_))
        rcases List.mem_cons.mp hz with e | e
        · subst e; exact absurd hw hzw
        · exact hYi hXi z e hzw
      · refine Ev.ifn hw (Ev.ifp (by omega) (Ev.ifp (by rw [rbn_length]; omega) ?_))
        rw [wrap_nat (by omega), Int.toNat_natCast, set_rbn]
        have hs : Sub S w X (upd X y) := ⟨fun z hz => upd_true.mpr (.inr hz), fun C hC hXC z hz => by
          rcases upd_true.mp hz with e | e
          · subst e; exact hC i (hXC i hX) z hmem hw
          · exact hXC z e⟩
        refine ih (j + 1) (upd X y) (by omega) (by omega) (fun Y hY hYi => hK Y (hs.trans hY) (fun hXi z hz hzw => ?_))
        rcases List.mem_cons.mp hz with e | e
        · subst e; exact hY.1 z (upd_self _ _)
        · exact hYi (upd_true.mpr (.inr hXi)) z e hzw
    · refine Ev.ifn hX ?_
      refine Ev.succ ?_; simp only [lockstepref06_Reach.j3]
      refine Ev.ifn (by decide) ?_
      rw [wrap_nat (by omega)]; exact hK X (Sub.refl _ _ _) (fun hXi => absurd hXi hX)
theorem reach_l1 {S : List (List Nat)} (h : Gr S) (P : List (List Int)) (w : Int) (t : Nat) (ht : t < S.length) (v : List Bool) (d : Nat) :
    ∀ (i : Nat) (X : Sn), S.length - i = d → i ≤ S.length →
    (∀ Y, Sub S w X Y → (∀ a, i ≤ a → a < S.length → X a = true → ∀ y ∈ S.getD a [], (y : Int) ≠ w → Y y = true) → Ev (fun k => lockstepref06_Reach.l0 k w (rbn S.length Y) ((t + 1 : Nat) : Int) (up2 S) P) v) →
    Ev (fun k => lockstepref06_Reach.l1 k w (rbn S.length X) (t : Int) (i : Int) (up2 S) P) v := by
  have hle := h.le
  induction d with
  | zero =>
    intro i X hd hi hK
    refine Ev.succ ?_; simp only [lockstepref06_Reach.l1]
    refine Ev.ifn (by rw [rbn_length]; omega) ?_
    rw [wrap_nat (by omega)]
    exact hK X (Sub.refl _ _ _) (fun a h1 h2 => by omega)
  | succ d ih =>
    intro i X hd hi hK
    refine Ev.succ ?_; simp only [lockstepref06_Reach.l1]
    refine Ev.ifp (by rw [rbn_length]; omega) ?_
    refine reach_l2 h P w t i (by omega) v _ 0 X rfl (by omega) (fun Y hY hYi => ?_)
    refine ih (i + 1) Y (by omega) (by omega) (fun Z hZ hZi => hK Z (hY.trans hZ) (fun a h1 h2 hXa y hy hyw => ?_))
    by_cases e : a = i
    · subst e
      exact hZ.1 y (hYi hXa y (by simpa using hy) hyw)
    · exact hZi a (by omega) h2 (hY.1 a hXa) y hy hyw
noncomputable def rchb (S : List (List Nat)) (w : Int) (r : Nat) : Sn := fun z => @decide (Rch S w r z) (Classical.propDecidable _)
theorem rchb_true {S : List (List Nat)} {w : Int} {r z : Nat} : rchb S w r z = true ↔ Rch S w r z := by unfold rchb; exact @decide_eq_true_iff _ (Classical.propDecidable _)
theorem rch_closed (S : List (List Nat)) (w : Int) (r : Nat) : Closed S w (Rch S w r) := fun _ ha _ hy hw => .step ha hy hw
theorem closed_eq {S : List (List Nat)} {w : Int} {r : Nat} {X : Sn} (hr : X r = true) (hX : ∀ z, X z = true → Rch S w r z) (hc : Closed S w (fun z => X z = true)) : X = rchb S w r := by
  funext z
  have e : X z = true ↔ rchb S w r z = true := by
    rw [rchb_true]
    refine ⟨hX z, fun hz => ?_⟩
    induction hz with
    | base _ => exact hr
    | @step a y _ hy hw ih => exact hc a ih y hy hw
  cases h1 : X z <;> cases h2 : rchb S w r z
  · rfl
  · rw [h1, h2] at e; exact absurd (e.mpr rfl) (by decide)
  · rw [h1, h2] at e; exact absurd (e.mp rfl) (by decide)
  · rfl
theorem reach_l0 {S : List (List Nat)} (h : Gr S) (P : List (List Int)) (w : Int) (r : Nat) (hr : r < S.length) (d : Nat) :
    ∀ (t : Nat) (X : Sn), S.length - t = d → t ≤ S.length → X r = true → (∀ z, X z = true → Rch S w r z) → (Closed S w (fun z => X z = true) ∨ t + 1 + cnt S.length X ≤ S.length) →
    Ev (fun k => lockstepref06_Reach.l0 k w (rbn S.length X) (t : Int) (up2 S) P) (rbn S.length (rchb S w r)) := by
  have hle := h.le
  induction d with
  | zero =>
    intro t X hd ht hXr hX hI
    refine Ev.succ ?_; simp only [lockstepref06_Reach.l0]
    refine Ev.ifn (by rw [rbn_length]; omega) ?_
    rcases hI with hc | hc
    · rw [closed_eq hXr hX hc]; exact Ev.pure
    · omega
  | succ d ih =>
    intro t X hd ht hXr hX hI
    refine Ev.succ ?_; simp only [lockstepref06_Reach.l0]
    refine Ev.ifp (by rw [rbn_length]; omega) ?_
    refine reach_l1 h P w t (by omega) _ _ 0 X rfl (by omega) (fun Y hY hYa => ?_)
    refine ih (t + 1) Y (by omega) (by omega) (hY.1 r hXr) (hY.2 _ (rch_closed S w r) hX) ?_
    by_cases hc : Closed S w (fun z => X z = true)
    · refine .inl (fun a ha y hy hw => ?_)
      exact hY.1 y (hc a (hY.2 _ hc (fun _ hz => hz) a ha) y hy hw)
    · right
      rcases hI with hc' | hI
      · exact absurd hc' hc
      · have : ∃ a y, X a = true ∧ y ∈ S.getD a [] ∧ (y : Int) ≠ w ∧ X y = false := by
          refine Classical.byContradiction (fun hn => hc (fun a ha y hy hw => ?_))
          cases hq : X y with
          | true => exact hq
          | false => exact absurd ⟨a, y, ha, hy, hw, hq⟩ hn
        obtain ⟨a, y, ha, hy, hw, hq⟩ := this
        have haS := (hX a ha).lt h hr
        have := cnt_lt hY.1 ((h.row a haS).2 y hy) hq (hYa a (Nat.zero_le _) haS ha y hy hw)
        omega
theorem reach_ok {S : List (List Nat)} (h : Gr S) (P : List (List Int)) (w : Int) (r : Nat) (hr : r < S.length) : Ev (fun k => lockstepref06_Reach.f k (up2 S) P (r : Int) w) (rbn S.length (rchb S w r)) := by
  have hle := h.le
  unfold lockstepref06_Reach.f
  have e0 : List.replicate (((up2 S).length : Int)).toNat false = rbn S.length none' := by
    rw [up2_length, Int.toNat_natCast]
    apply List.ext_getElem
    · simp
    · intro j h1 h2; simp [rbn, none']
  refine Ev.ifp (by omega) (Ev.ifp (by rw [up2_length]; omega) ?_)
  rw [e0]
  simp only [Option.bind_some]
  by_cases hw : (r : Int) = w
  · refine Ev.ifp hw (Ev.pure.of_eq ?_)
    congr 1
    funext z
    cases hq : rchb S w r z with
    | false => rfl
    | true =>
      have h1 := rchb_true.mp hq
      exfalso
      induction h1 with
      | base h2 => exact h2 hw
      | step h1 _ _ ih => exact ih (rchb_true.mpr h1)
  · refine Ev.ifn hw (Ev.ifp (by omega) (Ev.ifp (by rw [rbn_length]; omega) ?_))
    rw [Int.toNat_natCast, set_rbn]
    have hu := cnt_upd (n := S.length) (s := none') hr rfl
    rw [cnt_none] at hu
    refine reach_l0 h P w r hr S.length 0 (upd none' r) (by omega) (by omega) (upd_self _ _) (fun z hz => ?_) (.inr (by omega))
    rcases upd_true.mp hz with e | e
    · subst e; exact .base hw
    · cases e
end Go.Proofs.Ythahaajmgnoebaa.GP
namespace Go.Proofs.Ythahaajmgnoebaa.GP
open Go.RowKit Go.Proofs.Ythahaajmgnoebaa.G Go.Proofs.YthahaajmgnoebaaW.PrintWords
section
variable {S : List (List Nat)} {r : Nat} {at_ par : Nat → Nat}
theorem Gd.small (hD : Gd S r at_ par) : (dtl S r).length ≤ 1000 := by rw [dtl_length]; have := hD.gr.le; omega
theorem Gd.over_ev (hD : Gd S r at_ par) {a b : Nat} (ha : a < S.length) (hb : b < S.length) {v : Bool} (h : v = true ↔ Dm S r a b) : Ev (fun k => dom_Over.f k (dtl S r) (a : Int) (b : Int)) v :=
  (over_ok _ hD.small _ _).of_eq (hD.over_eq ha hb v h)
open Classical in
theorem Gd.over_ev' (hD : Gd S r at_ par) {a b : Nat} (ha : a < S.length) (hb : b < S.length) : Ev (fun k => dom_Over.f k (dtl S r) (a : Int) (b : Int)) (decide (Dm S r a b)) :=
  hD.over_ev ha hb decide_eq_true_iff
theorem Gd.meet_ev (hD : Gd S r at_ par) {a b : Nat} (ha : Rch S (-1) r a) (hb : Rch S (-1) r b) : ∃ m : Nat, Ev (fun k => dom_Meet.f k (dtl S r) (a : Int) (b : Int)) (m : Int) ∧ Dm S r m a ∧ Dm S r m b ∧ ∀ c, Dm S r c a → Dm S r c b → Dm S r c m := by
  obtain ⟨m, h1, h2⟩ := hD.meet ha hb
  exact ⟨m, (meet_ok _ hD.small _ _).of_eq h1, h2⟩
theorem Gd.meet_no_ev (hD : Gd S r at_ par) {a b : Nat} (ha : a < S.length) (hb : b < S.length) (h : ¬ (Rch S (-1) r a ∧ Rch S (-1) r b)) : Ev (fun k => dom_Meet.f k (dtl S r) (a : Int) (b : Int)) (-2) :=
  (meet_ok _ hD.small _ _).of_eq (hD.meet_no ha hb h)
end
theorem root_mod {a : Int} {n : Nat} (h : (Lit.int .u8 a).wf = true) (hn : 0 < n) : Int.tmod (wrap64 a) (n : Int) = ((a.toNat % n : Nat) : Int) ∧ a.toNat % n < n := by
  have h0 : 0 ≤ a ∧ a < 256 := by simp [Lit.wf, IntKind.min, IntKind.max, IntKind.signed, IntKind.bits] at h; omega
  refine ⟨?_, Nat.mod_lt _ hn⟩
  rw [wrap_id (by omega) (by omega)]
  obtain ⟨m, rfl⟩ : ∃ m : Nat, a = (m : Int) := ⟨a.toNat, by omega⟩
  rw [Int.toNat_natCast, Int.ofNat_tmod]
theorem order_nil (r : Int) : Ev (fun k => graph_Order.f k [] [] r) [] := order_no r (may_bad (s := []) (by simp) (by simp) (by decide) [])
theorem tree_nil (r : Int) : Ev (fun k => dom_Tree.f k [] [] r) [] := tree_no (order_nil r)
end Go.Proofs.Ythahaajmgnoebaa.GP
namespace Go.Proofs.Ythahaajmgnoebaa.GP
open Go.RowKit Go.Proofs.Ythahaajmgnoebaa.G Go.Proofs.YthahaajmgnoebaaW.PrintWords

/-! #### counting -/
theorem filter_split {α : Type} (l : List α) (p q s : α → Bool) (h : ∀ x ∈ l, (s x = true ↔ p x = true ∨ q x = true) ∧ ¬ (p x = true ∧ q x = true)) : (l.filter s).length = (l.filter p).length + (l.filter q).length := by
  induction l with
  | nil => simp
  | cons x l ih =>
    have h1 := ih (fun y hy => h y (List.mem_cons_of_mem _ hy))
    obtain ⟨h2, h3⟩ := h x (List.mem_cons_self ..)
    cases hp : p x <;> cases hq : q x <;> cases hs : s x <;> simp_all <;> omega
theorem filter_compl {α : Type} (l : List α) (p : α → Bool) : (l.filter p).length + (l.filter (fun x => !p x)).length = l.length := by
  induction l with
  | nil => simp
  | cons x l ih => cases hp : p x <;> simp [hp] <;> omega
theorem dfs_count {S : List (List Nat)} (h : Gr S) {r : Nat} (hr : r < S.length) (p : Nat → Bool) (hp : ∀ b, b < S.length → (p b = true ↔ Rch S (-1) r b ∧ b ≠ r)) : ((List.range S.length).filter p).length + 1 = (dfs S r).length := by
  obtain ⟨l, e1, _, _, _, e5⟩ := (dfs_vis h hr).1.new
  have e6 : l.length + cnt S.length (visit S S.length r (none', [])).1 = S.length := by rw [e5]; exact cnt_none _
  have e7 : (dfs S r).length = l.length := by rw [dfs, e1, List.length_reverse, List.nil_append]
  have hseen : ∀ z, (visit S S.length r (none', [])).1 z = true ↔ Rch S (-1) r z := fun z => by rw [← dfs_seen h hr, dfs_mem h hr]
  have e8 := filter_compl (List.range S.length) (visit S S.length r (none', [])).1
  rw [List.length_range] at e8
  have e9 := cnt_upd (n := S.length) (s := fun z => !(visit S S.length r (none', [])).1 z) hr (by rw [(hseen r).mpr (.base (by omega))]; rfl)
  have e10 : cnt S.length (fun z => !(visit S S.length r (none', [])).1 z) = ((List.range S.length).filter (visit S S.length r (none', [])).1).length := by
    unfold cnt
    congr 1
    exact List.filter_congr (fun z _ => by simp)
  have e11 : cnt S.length (upd (fun z => !(visit S S.length r (none', [])).1 z) r) = ((List.range S.length).filter p).length := by
    unfold cnt
    congr 1
    refine List.filter_congr (fun z hz => ?_)
    have h1 := hp z (List.mem_range.mp hz)
    have h2 := hseen z
    unfold upd
    by_cases e : z = r
    · rw [if_pos e]
      cases hpz : p z with
      | false => rfl
      | true => exact absurd e (h1.mp hpz).2
    · rw [if_neg e, Bool.not_not]
      cases hpz : p z with
      | false =>
        cases hv : (visit S S.length r (none', [])).1 z with
        | false => rfl
        | true => rw [h1.mpr ⟨h2.mp hv, e⟩] at hpz; cases hpz
      | true => rw [h2.mpr (h1.mp hpz).1]
  have e12 : cnt S.length (visit S S.length r (none', [])).1 = ((List.range S.length).filter (fun x => !(visit S S.length r (none', [])).1 x)).length := rfl
  omega

/-! #### the kids of one -/
noncomputable def ks (S : List (List Nat)) (r a : Nat) : List Nat := (List.range S.length).filter (fun b => decide (rd (dtl S r) ((b : Nat) : Int) = (a : Int)))
theorem filterMap_up (p : Nat → Prop) [DecidablePred p] (l : List Nat) : l.filterMap (fun b => if p b then some ((b : Nat) : Int) else none) = up (l.filter (fun b => decide (p b))) := by
  induction l with
  | nil => rfl
  | cons x l ih =>
    by_cases h : p x
    · rw [List.filterMap_cons, if_pos h, List.filter_cons, decide_eq_true h]; simp only [ih, if_true]; rfl
    · rw [List.filterMap_cons, if_neg h, List.filter_cons, decide_eq_false h]; simp only [ih]; rfl
section
variable {S : List (List Nat)} {r : Nat} {at_ par : Nat → Nat}
theorem Gd.kids_up (hD : Gd S r at_ par) {a : Nat} (ha : a < S.length) : kidsT (dtl S r) (a : Int) = up (ks S r a) := by
  have e : kdT (dtl S r) (a : Int) 0 = up (ks S r a) := by
    unfold kdT ks
    rw [List.drop_zero, dtl_length]
    exact filterMap_up (fun b => rd (dtl S r) ((b : Nat) : Int) = (a : Int)) _
  unfold kidsT
  by_cases h : inT (dtl S r) [(a : Int)] = true
  · rw [if_pos h, e]
  · rw [if_neg h]
    have hn : ks S r a = [] := by
      refine List.filter_eq_nil_iff.mpr (fun b hb hd => ?_)
      have hb' := List.mem_range.mp hb
      have hd' := of_decide_eq_true hd
      by_cases hR : Rch S (-1) r b
      · by_cases e2 : b = r
        · rw [e2, hD.rd_root] at hd'; omega
        · obtain ⟨z, hz, h3⟩ := hD.rd_idm hR e2
          rw [h3] at hd'
          exact h ((hD.inT1 ha).mpr (by rw [← show z = a by omega]; exact dm_rch hz.1))
      · rw [hD.rd_no hb' hR] at hd'; omega
    rw [hn]; rfl
theorem Gd.kids_ev (hD : Gd S r at_ par) {a : Nat} (ha : a < S.length) : Ev (fun k => dom_Kids.f k (dtl S r) (a : Int)) (up (ks S r a)) :=
  (kids_ok _ hD.small _).of_eq (hD.kids_up ha)
noncomputable def below (S : List (List Nat)) (r m : Nat) : Nat := ((List.range S.length).filter (fun b => decide (0 ≤ rd (dtl S r) ((b : Nat) : Int) ∧ rd (dtl S r) ((b : Nat) : Int) < (m : Int)))).length
theorem below_succ (m : Nat) : below S r (m + 1) = below S r m + (ks S r m).length := by
  unfold below ks
  refine filter_split _ _ _ _ (fun b _ => ⟨?_, ?_⟩)
  · simp only [decide_eq_true_eq]; omega
  · simp only [decide_eq_true_eq]; omega
theorem below_zero : below S r 0 = 0 := by
  unfold below
  rw [List.length_eq_zero_iff, List.filter_eq_nil_iff]
  intro b _ h
  have := of_decide_eq_true h; omega
theorem Gd.below_all (hD : Gd S r at_ par) : below S r S.length + 1 = (dfs S r).length := by
  refine dfs_count hD.gr hD.lt _ (fun b hb => ?_)
  rw [decide_eq_true_eq]
  by_cases hR : Rch S (-1) r b
  · by_cases e : b = r
    · rw [e, hD.rd_root]; simp
    · obtain ⟨z, hz, h3⟩ := hD.rd_idm hR e
      have hzl := (dm_rch hz.1).lt hD.gr hD.lt
      rw [h3]; exact ⟨fun _ => ⟨hR, e⟩, fun _ => by omega⟩
  · rw [hD.rd_no hb hR]; exact ⟨fun h => by omega, fun h => absurd h.1 hR⟩
theorem kids_l1 (hD : Gd S r at_ par) (a c : Nat) (hc : c ≤ 10000) (v : Bool) (hK : Ev (fun k => locksteplaw07_DomKids.l0 k (dtl S r) ((c + (ks S r a).length : Nat) : Int) (wrap64 ((a : Int) + 1)) (up2 S) (up2 (pr S))) v) (d : Nat) : ∀ i : Nat, (ks S r a).length - i = d → i ≤ (ks S r a).length →
    Ev (fun k => locksteplaw07_DomKids.l1 k (dtl S r) ((c + i : Nat) : Int) (a : Int) (up (ks S r a)) (i : Int) (up2 S) (up2 (pr S))) v := by
  have hle := hD.gr.le
  have hkl : (ks S r a).length ≤ S.length := by
    have := List.length_filter_le (fun b => decide (rd (dtl S r) ((b : Nat) : Int) = (a : Int))) (List.range S.length)
    rw [List.length_range] at this; exact this
  have hmem : ∀ i, i < (ks S r a).length → (ks S r a).getD i 0 < S.length ∧ rd (dtl S r) (((ks S r a).getD i 0 : Nat) : Int) = (a : Int) := by
    intro i hi
    have h1 : (ks S r a).getD i 0 ∈ ks S r a := getD_mem hi
    obtain ⟨h2, h3⟩ := List.mem_filter.mp h1
    exact ⟨List.mem_range.mp h2, of_decide_eq_true h3⟩
  have hsort : (ks S r a).Pairwise (· < ·) := List.pairwise_lt_range.filter _
  induction d with
  | zero =>
    intro i hd hi
    have e : i = (ks S r a).length := by omega
    subst e
    refine Ev.succ ?_; simp only [locksteplaw07_DomKids.l1]
    exact Ev.ifn (by rw [up_length]; omega) hK
  | succ d ih =>
    intro i hd hi
    obtain ⟨h1, h2⟩ := hmem i (by omega)
    refine Ev.succ ?_; simp only [locksteplaw07_DomKids.l1]
    have hnext : Ev (fun k => locksteplaw07_DomKids.l1 k (dtl S r) (wrap64 (((c + i : Nat) : Int) + 1)) (a : Int) (up (ks S r a)) (wrap64 ((i : Int) + 1)) (up2 S) (up2 (pr S))) v := by
      rw [wrap_nat (by omega), wrap_nat (by omega)]
      exact ih (i + 1) (by omega) (by omega)
    rw [rd_up, dtl_length]
    refine Ev.ifp (by rw [up_length]; omega) (Ev.ifp (by omega) (Ev.ifn (by omega) (Ev.ifn (by omega) (Ev.ifp (by omega) (Ev.ifp (by omega) (Ev.ifp h2 ?_))))))
    by_cases hi0 : (i : Int) > 0
    · have e : wrap64 ((i : Int) - 1) = ((i - 1 : Nat) : Int) := by rw [wrap_id (by omega) (by omega)]; omega
      rw [e, rd_up]
      refine Ev.ifp hi0 (Ev.ifp (by omega) (Ev.ifp (by rw [up_length]; omega) (Ev.ifn ?_ hnext)))
      have h3 := List.pairwise_iff_getElem.mp hsort (i - 1) i (by omega) (by omega) (by omega)
      rw [List.getD_eq_getElem?_getD, List.getD_eq_getElem?_getD, List.getElem?_eq_getElem (by omega), List.getElem?_eq_getElem (by omega)]
      simp only [Option.getD_some]; omega
    · exact Ev.ifn hi0 hnext
open Classical in
theorem kids_l4 (hD : Gd S r at_ par) (x6 x10 : Int) {a b m : Nat} (ha : a < S.length) (hb : b < S.length) (hm : m < S.length) (hlca : ∀ c, Dm S r c a → Dm S r c b → Dm S r c m) (v : Bool) (hK : Ev (fun k => locksteplaw07_DomKids.l3 k (dtl S r) x6 x10 (a : Int) (wrap64 ((b : Int) + 1))) v) (d : Nat) : ∀ c : Nat, S.length - c = d → c ≤ S.length →
    Ev (fun k => locksteplaw07_DomKids.l4 k (dtl S r) x6 x10 (a : Int) (b : Int) (m : Int) (c : Int)) v := by
  have hle := hD.gr.le
  induction d with
  | zero =>
    intro c hd hc
    refine Ev.succ ?_; simp only [locksteplaw07_DomKids.l4]
    refine Ev.ifn (by rw [dtl_length]; omega) (Ev.succ ?_); simp only [locksteplaw07_DomKids.j6]
    exact Ev.ifn (by decide) hK
  | succ d ih =>
    intro c hd hc
    have hcl : c < S.length := by omega
    have hnext : Ev (fun k => locksteplaw07_DomKids.l4 k (dtl S r) x6 x10 (a : Int) (b : Int) (m : Int) (wrap64 ((c : Int) + 1))) v := by
      rw [wrap_nat (by omega)]; exact ih (c + 1) (by omega) (by omega)
    refine Ev.succ ?_; simp only [locksteplaw07_DomKids.l4]
    refine Ev.ifp (by rw [dtl_length]; omega) ?_
    rw [decide_eq_true (show (m : Int) ≥ 0 by omega)]
    refine Ev.succ ?_; simp only [locksteplaw07_DomKids.j6]
    refine Ev.ifp trivial (Ev.bind (hD.over_ev' hcl ha) ?_)
    by_cases h1 : Dm S r c a
    · refine Ev.ifp (decide_eq_true h1) (Ev.bind (hD.over_ev' hcl hb) ?_)
      by_cases h2 : Dm S r c b
      · refine Ev.ifp (decide_eq_true h2) (Ev.bind (hD.over_ev' hcl hm) ?_)
        exact Ev.ifp (decide_eq_true (hlca c h1 h2)) hnext
      · exact Ev.ifn (by rw [decide_eq_false h2]; decide) hnext
    · exact Ev.ifn (by rw [decide_eq_false h1]; decide) hnext
theorem kids_l3 (hD : Gd S r at_ par) (x6 x10 : Int) (a : Nat) (ha : a < S.length) (v : Bool) (hK : Ev (fun k => locksteplaw07_DomKids.l2 k (dtl S r) x6 x10 (wrap64 ((a : Int) + 1))) v) (d : Nat) : ∀ b : Nat, S.length - b = d → b ≤ S.length →
    Ev (fun k => locksteplaw07_DomKids.l3 k (dtl S r) x6 x10 (a : Int) (b : Int)) v := by
  have hle := hD.gr.le
  induction d with
  | zero =>
    intro b hd hb
    refine Ev.succ ?_; simp only [locksteplaw07_DomKids.l3]
    exact Ev.ifn (by rw [dtl_length]; omega) hK
  | succ d ih =>
    intro b hd hb
    have hbl : b < S.length := by omega
    have hnext : Ev (fun k => locksteplaw07_DomKids.l3 k (dtl S r) x6 x10 (a : Int) (wrap64 ((b : Int) + 1))) v := by
      rw [wrap_nat (by omega)]; exact ih (b + 1) (by omega) (by omega)
    refine Ev.succ ?_; simp only [locksteplaw07_DomKids.l3]
    refine Ev.ifp (by rw [dtl_length]; omega) ?_
    by_cases h : Rch S (-1) r a ∧ Rch S (-1) r b
    · obtain ⟨m, h1, h2, h3, h4⟩ := hD.meet_ev h.1 h.2
      obtain ⟨m', g1, g2, g3, g4⟩ := hD.meet_ev h.2 h.1
      have e : m' = m := dm_antisymm hD.pl (h4 m' g3 g2) (g4 m h3 h2)
      subst e
      refine Ev.bind h1 (Ev.bind g1 (Ev.ifp rfl ?_))
      exact kids_l4 hD x6 x10 ha hbl ((dm_rch h2).lt hD.gr hD.lt) h4 v hnext _ 0 rfl (by omega)
    · refine Ev.bind (hD.meet_no_ev ha hbl h) (Ev.bind (hD.meet_no_ev hbl ha (fun h' => h ⟨h'.2, h'.1⟩)) (Ev.ifp rfl ?_))
      refine Ev.succ ?_; simp only [locksteplaw07_DomKids.l4]
      refine Ev.ifp (by rw [dtl_length]; have := hD.lt; omega) ?_
      rw [decide_eq_false (show ¬ ((-2 : Int) ≥ 0) by omega)]
      refine Ev.succ ?_; simp only [locksteplaw07_DomKids.j6]
      exact Ev.ifn (by decide) hnext
theorem kids_l2 (hD : Gd S r at_ par) (x6 x10 : Int) (hx : x6 = wrap64 (x10 - 1)) (d : Nat) : ∀ a : Nat, S.length - a = d → a ≤ S.length →
    Ev (fun k => locksteplaw07_DomKids.l2 k (dtl S r) x6 x10 (a : Int)) true := by
  have hle := hD.gr.le
  induction d with
  | zero =>
    intro a hd ha
    refine Ev.succ ?_; simp only [locksteplaw07_DomKids.l2]
    exact Ev.ifn (by rw [dtl_length]; omega) (Ev.pure.of_eq (by rw [hx]; simp))
  | succ d ih =>
    intro a hd ha
    refine Ev.succ ?_; simp only [locksteplaw07_DomKids.l2]
    refine Ev.ifp (by rw [dtl_length]; omega) ?_
    exact kids_l3 hD x6 x10 a (by omega) true (by rw [wrap_nat (by omega)]; exact ih (a + 1) (by omega) (by omega)) _ 0 rfl (by omega)
theorem kids_l0' (hD : Gd S r at_ par) (hr0 : r = 0) (d : Nat) : ∀ a : Nat, S.length - a = d → a ≤ S.length →
    Ev (fun k => locksteplaw07_DomKids.l0 k (dtl S r) (below S r a : Int) (a : Int) (up2 S) (up2 (pr S))) true := by
  have hle := hD.gr.le
  have hbl : ∀ a, below S r a ≤ S.length := fun a => by
    have := List.length_filter_le (fun b => decide (0 ≤ rd (dtl S r) ((b : Nat) : Int) ∧ rd (dtl S r) ((b : Nat) : Int) < (a : Int))) (List.range S.length)
    rw [List.length_range] at this; exact this
  induction d with
  | zero =>
    intro a hd ha
    have e : a = S.length := by omega
    refine Ev.succ ?_; simp only [locksteplaw07_DomKids.l0]
    refine Ev.ifn (by rw [dtl_length]; omega) ?_
    have ho := order_ok hD.gr hD.lt
    rw [hr0] at ho
    refine Ev.bind ho ?_
    have h1 := hD.below_all
    refine kids_l2 hD _ _ ?_ _ 0 rfl (by omega)
    rw [e, up_length, ← hr0, ← h1, wrap_id (by have := hbl S.length; omega) (by have := hbl S.length; omega)]; omega
  | succ d ih =>
    intro a hd ha
    refine Ev.succ ?_; simp only [locksteplaw07_DomKids.l0]
    refine Ev.ifp (by rw [dtl_length]; omega) (Ev.bind (hD.kids_ev (by omega)) ?_)
    refine kids_l1 hD a (below S r a) (by have := hbl a; omega) true ?_ _ 0 rfl (by omega)
    rw [wrap_nat (by omega), ← below_succ]
    exact ih (a + 1) (by omega) (by omega)
end
theorem domKids : locksteplaw07_DomKids.Pure := by
  intro l0 hrow
  refine Ev.at ?_
  have hbb : big = 9223372036854775807 := rfl
  have hml : maxLen ≤ big := by decide
  have hb : l0.length ≤ big := Nat.le_trans hrow.1 hml
  unfold locksteplaw07_DomKids.f
  refine Ev.bind awake_ev (Ev.ifp rfl ?_)
  have ht : Ev (fun k => locksteplaw07_DomKids.j0 k l0 true) true := by
    refine Ev.succ ?_; simp only [locksteplaw07_DomKids.j0]; exact Ev.ifp trivial Ev.pure
  by_cases h20 : (l0.length : Int) > 16
  · exact Ev.ifp h20 ht
  · refine Ev.ifn h20 ?_
    obtain ⟨b, h1, h2⟩ := small_ev l0 hb
    refine Ev.bind h1 ?_
    cases b with
    | false => exact ht
    | true =>
      have hr : ∀ l ∈ l0, l.length ≤ big := fun l hl => by have := (h2 rfl).2 l hl; omega
      refine Ev.succ ?_; simp only [locksteplaw07_DomKids.j0]
      refine Ev.ifn (by decide) ?_
      cases hg : goodb l0 with
      | false => exact Ev.bind (make_bad hb hr hg) (Ev.ifn (by decide) Ev.pure)
      | true =>
        obtain ⟨S, h, rfl⟩ := good_gr hg
        have hpos := h.pos
        refine Ev.bind (make_ok h) (Ev.ifp rfl ?_)
        obtain ⟨at_, par, hD⟩ := gd_ex h hpos
        refine Ev.bind (tree_ok h hpos) ?_
        have := kids_l0' hD rfl _ 0 rfl (by omega)
        rw [below_zero] at this
        exact this
end Go.Proofs.Ythahaajmgnoebaa.GP
namespace Go.Proofs.Ythahaajmgnoebaa.Pure
theorem DomKids : Go.Proofs.Ythahaajmgnoebaa.G.locksteplaw07_DomKids.Pure := GP.domKids
end Go.Proofs.Ythahaajmgnoebaa.Pure
namespace Go.Proofs.Ythahaajmgnoebaa.domKids
open Go.Proofs.YthahaajmgnoebaaH Go.Proofs.Ythahaajmgnoebaa.G
open Go.ChangeShapes Go.WideShapes Go.ChangeAt Go.RowKit
open Go.ChangeMaps (open_string shut_string)
set_option linter.unusedVariables false
theorem own : ownKnob Try.prog.godebug = none := by kernel_rfl
theorem laidOut : laidOutB Try.prog = true := by kernel_rfl
def IsRow (k : IntKind) (w : World) (a : Option Addr) (len cap : Nat) (zs : List Int) : Prop :=
  (a = none ∧ len = 0 ∧ cap = 0 ∧ zs = []) ∨
  ∃ x, a = some x ∧ len ≤ cap ∧ cap ≤ maxLen ∧ zs.length = cap ∧ (∀ i, i < zs.length → w.cell? (x.add i) = some (.int k (zs.getD i 0))) ∧ ∀ n ∈ zs, (Lit.int k n).wf = true
set_option maxRecDepth 100000 in
theorem lifted (os : Os) (started : os.Started) (H : Type) (enc : TypeId × Value → H) :
    ReturnsInHanded {} Try.checked os 7 .any (Rows.domKidsSpec.pre6 enc Try.prog Try.f7 Rows.domKidsRow.domain false) (Rows.domKidsSpec.post enc Try.prog Try.f7 false true false false) := by
  refine returnsInHanded_of_change_sized (C := Try.checked) own started (by kernel_rfl) Try.func7
    (ChangeSpec.witness6 (enc := enc) (C := Try.checked) false ⟨#[], #[.slice none 0 0], []⟩ 8 (by kernel_rfl) (by kernel_rfl) (by kernel_rfl) (by kernel_rfl)) ?_
  intro W base args ds gs before hval0 hW hcnd hsz0 _
  have hsz : (DataW.weightsEach Try.prog (Try.f7.params.toList ++ Rows.domKidsSpec.plain.varTypes Try.prog) (ds ++ gs)).all (· ≤ reachBytes) = true := hsz0
  have hval : ∀ (j : Nat) t v, Try.f7.params[j]? = some t → args[j]? = some v → Value.okWide Try.prog W .any base t v := hval0
  have hW' := hW
  obtain ⟨p, q, hA0, hV, rfl, hfz, hnd⟩ := hW
  have hA : DataW.TrodAll enc Try.prog W 0 (fun _ => true) true Try.f7.params.toList args.toList ds p := hA0
  rw [Try.params7] at hA hval hsz
  obtain ⟨v0, vs0, d0, ds0, p0, q0, hargs, rfl, rfl, h0, r0⟩ := trodAll_cons hA
  obtain ⟨rfl, rfl, rfl⟩ := trodAll_nil r0
  obtain rfl : args = #[v0] := by cases args; simp_all
  obtain ⟨rfl, rfl⟩ := trodVars_none hV
  obtain ⟨a0, len0, cap0, rfl⟩ := okWide_slice Try.underlying22 (hval 0 22 v0 rfl rfl)
  have k0 := h0
  have lt0 : ∀ x ∈ p0, x.block < W.heap.size := by obtain ⟨m, hm⟩ := k0; exact DataW.trod_lt m _ _ _ hm
  obtain ⟨l0, rfl, w0, y0, m0⟩ := C_of_rows Try.underlying22 Try.underlying31 Try.underlying3 (by kernel_rfl) (by kernel_rfl) h0
  clear hA0 hval0 hsz0 hsz
  refine (G.locksteplaw07_DomKids.walk Pure.DomKids a0 cap0 l0 W w0 y0 m0).mono fun e W' ⟨he, bel⟩ => ?_
  subst he
  exact ⟨_, rfl, _, _, _, [], _, [], hW', trodAll_mk1 (shut_bool Try.underlying4 _), (trodAll_cons_mk (Below.trod laidOut (by kernel_rfl) (of_decide_eq_true (by kernel_rfl)) k0 bel lt0) trodAll_mk0), rfl, bel.frame _, fun h => by cases h⟩
theorem over : Rows.domKidsRow.holds Try.pinned (OpenSpec.ofChange Rows.domKidsSpec) :=
  OpenClaim.holds_of_wide 7 Try.f7 rfl rfl rfl rfl rfl rfl rfl ⟨rfl, rfl, rfl, rfl, rfl⟩ rfl rfl rfl rfl rfl (by kernel_rfl) Try.func7 (by kernel_rfl)
    (of_decide_eq_true (by kernel_rfl)) (by unfold Func.isWrapper; first | (rw [if_pos (by decide +kernel)]; kernel_rfl) | (rw [if_neg (by decide +kernel)]; exact ⟨rfl, rfl⟩))
    (fun os started H enc _ => lifted os started H enc)
theorem proved : Rows.DomKidsSaid := over
#print axioms proved
end Go.Proofs.Ythahaajmgnoebaa.domKids
namespace Go.Proofs.Ythahaajmgnoebaa
/-- The row, under a short name, for the claim. -/
theorem domKids_holds : Rows.DomKidsSaid := domKids.proved
end Go.Proofs.Ythahaajmgnoebaa
