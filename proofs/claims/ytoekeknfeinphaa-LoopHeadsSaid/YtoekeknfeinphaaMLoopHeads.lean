/- Texts of this session, joined by wip/tools/merge.py. Conditions: each theorem's own. -/
import Derived.Test.YtoekeknfeinphaaMLoopHeadsb
import Derived.Test.YtoekeknfeinphaaGx16
import Derived.Test.YtoekeknfeinphaaGx17
import Derived.Test.YtoekeknfeinphaaGx19
import Derived.Test.YtoekeknfeinphaaGx20
import Derived.Test.YtoekeknfeinphaaGx21
import Derived.Test.YtoekeknfeinphaaMLoopHeadsc
import Derived.Test.YtoekeknfeinphaaGx22
import Derived.Test.YtoekeknfeinphaaGx23
import Derived.Test.YtoekeknfeinphaaGx24
import Derived.Test.YtoekeknfeinphaaHRows
import Derived.Test.YtoekeknfeinphaaRows
import Derived.WalkKit
import Derived.ProofKit
import Derived.OpenShut
import Derived.ShutString
import Derived.ChangeOld
import Derived.Below
import Derived.SizedLaws
import Derived.ChangeSlices
namespace Go.Proofs.Ytoekeknfeinphaa.GP
open Go.RowKit Go.Proofs.Ytoekeknfeinphaa.G Go.Proofs.YtoekeknfeinphaaW.PrintWords

/-- The way up from a place. -/
def pth (t : List Int) : Nat → Int → Option (List Int)
  | 0, _ => none
  | f + 1, a => if a < 0 ∨ (t.length : Int) ≤ a then none else if rd t a = -1 then some [a] else (pth t f (rd t a)).map (a :: ·)
abbrev way (t : List Int) (a : Int) : Option (List Int) := pth t t.length a
theorem pth_step {t : List Int} {f : Nat} {a : Int} (h0 : 0 ≤ a) (h1 : a < (t.length : Int)) (ht : rd t a ≠ -1) : pth t (f + 1) a = (pth t f (rd t a)).map (a :: ·) := by
  rw [pth, if_neg (by omega), if_neg ht]
theorem pth_top {t : List Int} {f : Nat} {a : Int} (h0 : 0 ≤ a) (h1 : a < (t.length : Int)) (ht : rd t a = -1) : pth t (f + 1) a = some [a] := by
  rw [pth, if_neg (by omega), if_pos ht]
theorem pth_out {t : List Int} {f : Nat} {a : Int} (h : a < 0 ∨ (t.length : Int) ≤ a) : pth t f a = none := by
  cases f with
  | zero => rfl
  | succ f => rw [pth, if_pos h]
theorem pth_more {t : List Int} : ∀ {f g : Nat} {a : Int} {l : List Int}, f ≤ g → pth t f a = some l → pth t g a = some l := by
  intro f
  induction f with
  | zero => intro g a l _ h; simp [pth] at h
  | succ f ih =>
    intro g a l hg h
    obtain ⟨g, rfl⟩ : ∃ m, g = m + 1 := ⟨g - 1, by omega⟩
    rw [pth] at h ⊢
    by_cases ho : a < 0 ∨ (t.length : Int) ≤ a
    · rw [if_pos ho] at h; cases h
    · rw [if_neg ho] at h ⊢
      by_cases ht : rd t a = -1
      · rw [if_pos ht] at h ⊢; exact h
      · rw [if_neg ht] at h ⊢
        cases hq : pth t f (rd t a) with
        | none => rw [hq] at h; cases h
        | some m => rw [hq] at h; rw [ih (by omega) hq]; exact h
/-- A way is cut: from each place on it it goes on. -/
theorem pth_form {t : List Int} {f : Nat} {a : Int} {l : List Int} (h : pth t f a = some l) : 0 ≤ a ∧ a < (t.length : Int) ∧ l.length ≤ f ∧
    ((rd t a = -1 ∧ l = [a]) ∨ (rd t a ≠ -1 ∧ ∃ m, l = a :: m ∧ pth t (f - 1) (rd t a) = some m)) := by
  cases f with
  | zero => simp [pth] at h
  | succ f =>
    rw [pth] at h
    by_cases ho : a < 0 ∨ (t.length : Int) ≤ a
    · rw [if_pos ho] at h; cases h
    · rw [if_neg ho] at h
      refine ⟨by omega, by omega, ?_⟩
      have key : ∀ (g : Nat) (b : Int) (m : List Int), pth t g b = some m → m.length ≤ g := by
        intro g
        induction g with
        | zero => intro b m h; simp [pth] at h
        | succ g ih =>
          intro b m h
          rw [pth] at h
          by_cases ho : b < 0 ∨ (t.length : Int) ≤ b
          · rw [if_pos ho] at h; cases h
          · rw [if_neg ho] at h
            by_cases ht : rd t b = -1
            · rw [if_pos ht] at h; cases h; simp
            · rw [if_neg ht] at h
              cases hq : pth t g (rd t b) with
              | none => rw [hq] at h; cases h
              | some m' => rw [hq] at h; cases h; have := ih _ _ hq; simp; omega
      by_cases ht : rd t a = -1
      · rw [if_pos ht] at h; cases h
        exact ⟨by simp, .inl ⟨ht, rfl⟩⟩
      · rw [if_neg ht] at h
        cases hq : pth t f (rd t a) with
        | none => rw [hq] at h; cases h
        | some m =>
          rw [hq] at h; cases h
          have := key _ _ _ hq
          exact ⟨by simp; omega, .inr ⟨ht, m, rfl, hq⟩⟩
theorem way_form {t : List Int} {a : Int} {l : List Int} (h : way t a = some l) : 0 ≤ a ∧ a < (t.length : Int) ∧ l.length ≤ t.length ∧
    ((rd t a = -1 ∧ l = [a]) ∨ (rd t a ≠ -1 ∧ ∃ m, l = a :: m ∧ way t (rd t a) = some m)) := by
  obtain ⟨h1, h2, h3, h4⟩ := pth_form h
  refine ⟨h1, h2, h3, ?_⟩
  rcases h4 with h4 | ⟨h4, m, h5, h6⟩
  · exact .inl h4
  · exact .inr ⟨h4, m, h5, pth_more (by omega) h6⟩
theorem way_mem {t : List Int} : ∀ {l : List Int} {a x : Int}, way t a = some l → x ∈ l → x = a ∨ ∃ m, way t x = some m ∧ m.length < l.length := by
  intro l
  induction l with
  | nil => intro a x _ hx; cases hx
  | cons y l ih =>
    intro a x h hx
    obtain ⟨_, _, _, h4⟩ := way_form h
    rcases h4 with ⟨_, h5⟩ | ⟨_, m, h5, h6⟩
    · cases h5; left; simpa using hx
    · cases h5
      rcases List.mem_cons.mp hx with e | e
      · exact .inl e
      · rcases ih h6 e with e' | ⟨m', h7, h8⟩
        · subst e'; exact .inr ⟨l, h6, by simp⟩
        · exact .inr ⟨m', h7, by simp; omega⟩

/-! #### how far down -/
def dep (t : List Int) (a : Int) : Int := match way t a with | none => -1 | some l => (l.length : Int) - 1
theorem depth_l0 (t : List Int) (hb : t.length ≤ 1000) (d : Nat) : ∀ (i : Nat) (a : Int), t.length - i = d → i ≤ t.length →
    Ev (fun k => dom_depth.l0 k t a (t.length : Int) (i : Int)) (match pth t d a with | none => -1 | some l => (i : Int) + l.length - 1) := by
  induction d with
  | zero =>
    intro i a hd hi
    refine Ev.succ ?_; simp only [dom_depth.l0]
    exact Ev.ifn (by omega) (Ev.pure.of_eq (by simp [pth]))
  | succ d ih =>
    intro i a hd hi
    refine Ev.succ ?_; simp only [dom_depth.l0]
    refine Ev.ifp (by omega) ?_
    have hout : a < 0 ∨ (t.length : Int) ≤ a → Ev (fun k => dom_depth.j1 k t a (i : Int) (t.length : Int) (i : Int) true) (match pth t (d + 1) a with | none => -1 | some l => (i : Int) + l.length - 1) := by
      intro ho
      rw [pth_out ho]
      refine Ev.succ ?_; simp only [dom_depth.j1]
      exact Ev.ifp trivial Ev.pure
    by_cases h0 : a < 0
    · exact Ev.ifp h0 (hout (.inl h0))
    · refine Ev.ifn h0 ?_
      by_cases h1 : a ≥ (t.length : Int)
      · rw [decide_eq_true h1]; exact hout (.inr h1)
      · rw [decide_eq_false h1]
        refine Ev.succ ?_; simp only [dom_depth.j1]
        refine Ev.ifn (by decide) (Ev.ifp (by omega) (Ev.ifp (by omega) ?_))
        by_cases ht : rd t a = -1
        · refine Ev.ifp ht (Ev.pure.of_eq ?_)
          rw [pth_top (by omega) (by omega) ht]; simp
        · refine Ev.ifn ht ?_
          rw [wrap_nat (by omega)]
          refine (ih (i + 1) (rd t a) (by omega) (by omega)).of_eq ?_
          rw [pth_step (by omega) (by omega) ht]
          cases pth t d (rd t a) with
          | none => rfl
          | some l => simp; omega
theorem depth_ok (t : List Int) (hb : t.length ≤ 1000) (a : Int) : Ev (fun k => dom_depth.f k t a) (dep t a) := by
  unfold dom_depth.f
  refine (depth_l0 t hb t.length 0 a (by omega) (by omega)).of_eq ?_
  unfold dep way
  cases pth t t.length a <;> simp
theorem dep_neg {t : List Int} {a : Int} : dep t a < 0 ↔ way t a = none := by
  unfold dep
  cases h : way t a with
  | none => simp
  | some l =>
    have := (way_form h).2.2.2
    have h2 : 0 < l.length := by rcases this with ⟨_, e⟩ | ⟨_, m, e, _⟩ <;> rw [e] <;> simp
    simp; omega

/-! #### trees -/
/-- Whether all from i on come to the top, and the tops are one with those that are told. -/
def rgo (t : List Int) : Nat → Nat → Int → Bool
  | 0, _, tops => tops == 1
  | d + 1, i, tops => if rd t (i : Int) ≠ -2 ∧ way t (i : Int) = none then false else rgo t d (i + 1) (if rd t (i : Int) = -1 then tops + 1 else tops)
abbrev rgt (t : List Int) : Bool := rgo t t.length 0 0
theorem right_l0 (t : List Int) (hb : t.length ≤ 1000) (d : Nat) : ∀ (i : Nat) (tops : Int), t.length - i = d → i ≤ t.length → 0 ≤ tops → tops ≤ i →
    Ev (fun k => dom_right.l0 k t tops t (t.length : Int) (i : Int)) (rgo t d i tops) := by
  induction d with
  | zero =>
    intro i tops hd hi _ _
    refine Ev.succ ?_; simp only [dom_right.l0]
    exact Ev.ifn (by omega) (Ev.pure.of_eq rfl)
  | succ d ih =>
    intro i tops hd hi h0 h1
    have hwt : wrap64 (tops + 1) = tops + 1 := wrap_id (by omega) (by omega)
    refine Ev.succ ?_; simp only [dom_right.l0]
    refine Ev.ifp (by omega) (Ev.ifp (by omega) (Ev.ifp (by omega) ?_))
    rw [wrap_nat (by omega), hwt, rgo]
    have hcall : ∀ (tops' : Int), rd t (i : Int) ≠ -2 → 0 ≤ tops' → tops' ≤ ((i + 1 : Nat) : Int) → Ev (fun k => (dom_depth.f k t (i : Int)).bind fun t1 => (if t1 < 0 then (some false) else (dom_right.l0 k t tops' t (t.length : Int) ((i + 1 : Nat) : Int)))) (if rd t (i : Int) ≠ -2 ∧ way t (i : Int) = none then false else rgo t d (i + 1) tops') := by
      intro tops' h2 g0 g1
      refine Ev.bind (depth_ok t hb _) ?_
      by_cases hw : way t (i : Int) = none
      · rw [if_pos ⟨h2, hw⟩]; exact Ev.ifp (dep_neg.mpr hw) Ev.pure
      · rw [if_neg (fun h => hw h.2)]; exact Ev.ifn (fun h => hw (dep_neg.mp h)) (ih (i + 1) tops' (by omega) (by omega) g0 g1)
    by_cases e1 : rd t (i : Int) = -1
    · rw [if_pos e1]
      refine Ev.ifp e1 (Ev.ifn (by omega) ?_)
      exact hcall (tops + 1) (by omega) (by omega) (by omega)
    · rw [if_neg e1]
      refine Ev.ifn e1 ?_
      by_cases e2 : rd t (i : Int) = -2
      · rw [if_neg (fun h => h.1 e2)]
        exact Ev.ifp e2 (ih (i + 1) tops (by omega) (by omega) h0 (by omega))
      · exact Ev.ifn e2 (hcall tops e2 h0 (by omega))
theorem right_ok (t : List Int) (hb : t.length ≤ 1000) : Ev (fun k => dom_right.f k t) (rgt t) := by
  unfold dom_right.f
  exact right_l0 t hb t.length 0 0 (by omega) (by omega) (by omega) (by omega)
theorem rgo_le {t : List Int} : ∀ (d i : Nat) (tops : Int), rgo t d i tops = true → tops ≤ 1 := by
  intro d
  induction d with
  | zero => intro i tops h; simp [rgo] at h; omega
  | succ d ih =>
    intro i tops h
    rw [rgo] at h
    split at h
    · cases h
    · have := ih _ _ h; split at this <;> omega
theorem rgo_top {t : List Int} : ∀ (d i : Nat) (tops : Int), rgo t d i tops = true → ∀ a, i ≤ a → a < i + d → rd t (a : Int) = -1 → tops ≤ 0 := by
  intro d
  induction d with
  | zero => intro i tops h a h1 h2; omega
  | succ d ih =>
    intro i tops h a h1 h2 ha
    rw [rgo] at h
    split at h
    · cases h
    · by_cases e : a = i
      · subst e; rw [if_pos ha] at h; have := rgo_le _ _ _ h; omega
      · have := ih _ _ h a (by omega) (by omega) ha; split at this <;> omega
theorem rgo_one {t : List Int} : ∀ (d i : Nat) (tops : Int), rgo t d i tops = true → 0 ≤ tops → ∀ a b, i ≤ a → a < b → b < i + d → rd t (a : Int) = -1 → rd t (b : Int) = -1 → False := by
  intro d
  induction d with
  | zero => intro i tops h _ a b h1 h2 h3; omega
  | succ d ih =>
    intro i tops h h0 a b h1 h2 h3 ha hb
    rw [rgo] at h
    split at h
    · cases h
    · by_cases e : a = i
      · subst e; rw [if_pos ha] at h; have := rgo_top _ _ _ h b (by omega) (by omega) hb; omega
      · exact ih _ _ h (by split <;> omega) a b (by omega) h2 (by omega) ha hb
theorem rgt_one {t : List Int} (h : rgt t = true) {a b : Int} (ha0 : 0 ≤ a) (ha1 : a < (t.length : Int)) (hb0 : 0 ≤ b) (hb1 : b < (t.length : Int)) (ha : rd t a = -1) (hb : rd t b = -1) : a = b := by
  obtain ⟨x, rfl⟩ : ∃ x : Nat, a = (x : Int) := ⟨a.toNat, by omega⟩
  obtain ⟨y, rfl⟩ : ∃ y : Nat, b = (y : Int) := ⟨b.toNat, by omega⟩
  by_cases e : x = y
  · rw [e]
  · exfalso
    by_cases l : x < y
    · exact rgo_one _ _ _ h (by omega) x y (by omega) l (by omega) ha hb
    · exact rgo_one _ _ _ h (by omega) y x (by omega) (by omega) (by omega) hb ha

/-! #### in, Meet, Over, Kids -/
theorem ixf_l0 (t : List Int) (hb : t.length ≤ 1000) (d : Nat) : ∀ (i : Nat) (l : List Int), l.length ≤ 1000 → i ≤ l.length → l.length - i = d →
    ∃ v, Ev (fun k => slices_IndexFunc_int_int_dom_in_1.l0 k l (l.length : Int) (i : Int) t) v ∧ decide (v ≥ 0) = (l.drop i).any (fun a => (way t a).isNone) := by
  induction d with
  | zero =>
    intro i l hl hi hd
    refine ⟨-1, Ev.succ ?_, ?_⟩
    · simp only [slices_IndexFunc_int_int_dom_in_1.l0]; exact Ev.ifn (by omega) Ev.pure
    · rw [List.drop_of_length_le (by omega)]; rfl
  | succ d ih =>
    intro i l hl hi hd
    obtain ⟨v, h1, h2⟩ := ih (i + 1) l hl (by omega) (by omega)
    rw [drop_getD l i 0 (by omega), List.any_cons]
    have hrd : rd l (i : Int) = l.getD i 0 := by simp [rd]
    have hin : Ev (fun k => dom_in_1.f k (rd l (i : Int)) t) (way t (l.getD i 0)).isNone := by
      unfold dom_in_1.f
      refine Ev.bind (depth_ok t hb _) (Ev.pure.of_eq ?_)
      rw [hrd]
      cases hw : way t (l.getD i 0) with
      | none => rw [decide_eq_true (dep_neg.mpr hw)]; rfl
      | some m => rw [decide_eq_false (fun h => by rw [dep_neg.mp h] at hw; cases hw)]; rfl
    cases hw : (way t (l.getD i 0)).isNone with
    | true =>
      refine ⟨(i : Int), Ev.succ ?_, by simp⟩
      simp only [slices_IndexFunc_int_int_dom_in_1.l0]
      refine Ev.ifp (by omega) (Ev.ifp (by omega) (Ev.ifp (by omega) (Ev.bind hin ?_)))
      exact Ev.ifp hw Ev.pure
    | false =>
      refine ⟨v, Ev.succ ?_, by rw [h2]; rfl⟩
      simp only [slices_IndexFunc_int_int_dom_in_1.l0]
      refine Ev.ifp (by omega) (Ev.ifp (by omega) (Ev.ifp (by omega) (Ev.bind hin ?_)))
      refine Ev.ifn (by rw [hw]; decide) ?_
      rw [wrap_nat (by omega)]; exact h1
def inT (t : List Int) (l : List Int) : Bool := rgt t && l.all (fun a => (way t a).isSome)
theorem in_ok (t : List Int) (hb : t.length ≤ 1000) (l : List Int) (hl : l.length ≤ 1000) : Ev (fun k => dom_in.f k t l) (inT t l) := by
  unfold dom_in.f inT
  refine Ev.bind (right_ok t hb) ?_
  cases hr : rgt t with
  | false => exact Ev.ifn (by decide) Ev.pure
  | true =>
    refine Ev.ifp rfl ?_
    obtain ⟨v, h1, h2⟩ := ixf_l0 t hb l.length 0 l hl (by omega) (by omega)
    refine Ev.bind (a := decide (v ≥ 0)) ?_ (Ev.pure.of_eq ?_)
    · unfold slices_ContainsFunc_int_int_dom_in_1.f slices_IndexFunc_int_int_dom_in_1.f
      exact Ev.bind h1 Ev.pure
    · rw [h2, List.drop_zero, Bool.true_and, List.not_any_eq_all_not]
      congr 1
      funext a
      cases way t a <;> rfl
/-- The first of a list that lies in another one; -2: none. -/
def fst2 (p q : List Int) : Int := (p.find? (fun x => decide (x ∈ q))).getD (-2)
def meetT (t : List Int) (a b : Int) : Int := if rgt t = true then match way t a, way t b with | some p, some q => fst2 p q | _, _ => -2 else -2
theorem meet_l0 (t : List Int) (hb : t.length ≤ 1000) (hr : rgt t = true) : ∀ (m : Nat) (p q : List Int) (a b : Int), p.length + q.length ≤ m → way t a = some p → way t b = some q → Ev (fun k => dom_Meet.l0 k t a b) (fst2 p q) := by
  intro m
  induction m with
  | zero =>
    intro p q a b hm hp hq
    have h := (way_form hp).2.2.2
    rcases h with ⟨_, e⟩ | ⟨_, _, e, _⟩ <;> rw [e] at hm <;> simp at hm
  | succ m ih =>
    intro p q a b hm hp hq
    obtain ⟨pa0, pa1, pa2, pa3⟩ := way_form hp
    obtain ⟨qa0, qa1, qa2, qa3⟩ := way_form hq
    have hpd : dep t a = (p.length : Int) - 1 := by unfold dep; rw [hp]
    have hqd : dep t b = (q.length : Int) - 1 := by unfold dep; rw [hq]
    refine Ev.succ ?_; simp only [dom_Meet.l0]
    by_cases hab : a = b
    · refine Ev.ifp hab (Ev.pure.of_eq ?_)
      subst hab
      rw [hp] at hq; cases hq
      rcases pa3 with ⟨_, e⟩ | ⟨_, _, e, _⟩ <;> rw [e] <;> simp [fst2]
    · refine Ev.ifn hab (Ev.bind (depth_ok t hb a) (Ev.bind (depth_ok t hb b) ?_))
      rw [hpd, hqd]
      by_cases hge : (p.length : Int) - 1 ≥ (q.length : Int) - 1
      · refine Ev.ifp hge (Ev.ifp (by omega) (Ev.ifp (by omega) ?_))
        rcases pa3 with ⟨ht, e⟩ | ⟨_, p', e, hp'⟩
        · rw [e] at hge
          rcases qa3 with ⟨ht', e'⟩ | ⟨_, q', e', hq'⟩
          · exact absurd (rgt_one hr pa0 pa1 qa0 qa1 ht ht') hab
          · exfalso
            have h := (way_form hq').2.2.2
            rw [e'] at hge
            rcases h with ⟨_, e''⟩ | ⟨_, _, e'', _⟩ <;> rw [e''] at hge <;> simp at hge <;> omega
        · have hnot : ¬ a ∈ q := by
            intro hm'
            rcases way_mem hq hm' with e'' | ⟨m', h7, h8⟩
            · exact hab e''
            · rw [hp] at h7; cases h7; omega
          rw [e] at hm ⊢
          refine (ih p' q (rd t a) b (by simp at hm; omega) hp' hq).of_eq ?_
          unfold fst2
          rw [List.find?_cons_of_neg (by simpa using hnot)]
      · refine Ev.ifn hge (Ev.ifp (by omega) (Ev.ifp (by omega) ?_))
        rcases qa3 with ⟨ht, e⟩ | ⟨_, q', e, hq'⟩
        · exfalso
          rw [e] at hge
          rcases pa3 with ⟨_, e'⟩ | ⟨_, _, e', _⟩ <;> rw [e'] at hge <;> simp at hge <;> omega
        · have hnot : ¬ b ∈ p := by
            intro hm'
            rcases way_mem hp hm' with e'' | ⟨m', h7, h8⟩
            · exact hab e''.symm
            · rw [hq] at h7; cases h7; omega
          rw [e] at hm ⊢
          refine (ih p q' a (rd t b) (by simp at hm; omega) hp hq').of_eq ?_
          unfold fst2
          congr 1
          have : ∀ l : List Int, (∀ x ∈ l, x ∈ p) → l.find? (fun x => decide (x ∈ q')) = l.find? (fun x => decide (x ∈ b :: q')) := by
            intro l
            induction l with
            | nil => intro _; rfl
            | cons x l ih2 =>
              intro hl
              have hx : x ≠ b := fun e => hnot (e ▸ hl x (List.mem_cons_self ..))
              have e3 : decide (x ∈ b :: q') = decide (x ∈ q') := by simp [hx]
              rw [List.find?_cons, List.find?_cons, e3, ih2 (fun y hy => hl y (List.mem_cons_of_mem _ hy))]
          exact this p (fun _ h => h)
theorem inT_two {t : List Int} {a b : Int} : inT t [a, b] = true ↔ rgt t = true ∧ (∃ p, way t a = some p) ∧ ∃ q, way t b = some q := by
  unfold inT
  simp [Option.isSome_iff_exists]
theorem inT_one {t : List Int} {a : Int} : inT t [a] = true ↔ rgt t = true ∧ ∃ p, way t a = some p := by
  unfold inT
  simp [Option.isSome_iff_exists]
theorem meet_ok (t : List Int) (hb : t.length ≤ 1000) (a b : Int) : Ev (fun k => dom_Meet.f k t a b) (meetT t a b) := by
  unfold dom_Meet.f meetT
  refine Ev.bind (in_ok t hb _ (by simp)) ?_
  by_cases h : inT t [a, b] = true
  · obtain ⟨hr, ⟨p, hp⟩, q, hq⟩ := inT_two.mp h
    refine Ev.ifp h ?_
    rw [if_pos hr, hp, hq]
    exact meet_l0 t hb hr _ p q a b (Nat.le_refl _) hp hq
  · refine Ev.ifn h (Ev.pure.of_eq ?_)
    by_cases hr : rgt t = true
    · rw [if_pos hr]
      cases hp : way t a with
      | none => rfl
      | some p => cases hq : way t b with
        | none => rfl
        | some q => exact absurd (inT_two.mpr ⟨hr, ⟨p, hp⟩, q, hq⟩) h
    · rw [if_neg hr]
def overT (t : List Int) (a b : Int) : Bool := inT t [a, b] && (meetT t a b == a)
theorem over_ok (t : List Int) (hb : t.length ≤ 1000) (a b : Int) : Ev (fun k => dom_Over.f k t a b) (overT t a b) := by
  unfold dom_Over.f overT
  refine Ev.bind (in_ok t hb _ (by simp)) ?_
  cases h : inT t [a, b] with
  | false => exact Ev.ifn (by decide) Ev.pure
  | true => exact Ev.ifp rfl (Ev.bind (meet_ok t hb a b) Ev.pure)
/-- Whose entry one is, from i on. -/
def kdT (t : List Int) (a : Int) (i : Nat) : List Int := ((List.range t.length).drop i).filterMap (fun b => if rd t ((b : Nat) : Int) = a then some ((b : Nat) : Int) else none)
theorem kdT_end (t : List Int) (a : Int) (i : Nat) (h : t.length ≤ i) : kdT t a i = [] := by unfold kdT; rw [List.drop_of_length_le (by simpa using h)]; rfl
theorem kdT_step (t : List Int) (a : Int) (i : Nat) (h : i < t.length) : kdT t a i = (if rd t (i : Int) = a then [(i : Int)] else []) ++ kdT t a (i + 1) := by
  unfold kdT
  rw [drop_getD (List.range t.length) i 0 (by simpa using h), List.filterMap_cons, List.getD_eq_getElem?_getD, List.getElem?_range h, Option.getD_some]
  split <;> rename_i e <;> split at e <;> simp_all
theorem kids_l0 (t : List Int) (hb : t.length ≤ 1000) (a : Int) (d : Nat) : ∀ (i : Nat) (o : List Int), t.length - i = d → i ≤ t.length → o.length ≤ i →
    Ev (fun k => dom_Kids.l0 k t a o t (t.length : Int) (i : Int)) (o ++ if inT t [a] = true then kdT t a i else []) := by
  induction d with
  | zero =>
    intro i o hd hi _
    refine Ev.succ ?_; simp only [dom_Kids.l0]
    refine Ev.ifn (by omega) (Ev.pure.of_eq ?_)
    rw [kdT_end _ _ _ (by omega)]; simp
  | succ d ih =>
    intro i o hd hi ho
    refine Ev.succ ?_; simp only [dom_Kids.l0]
    refine Ev.ifp (by omega) (Ev.ifp (by omega) (Ev.ifp (by omega) ?_))
    rw [kdT_step _ _ _ (show i < t.length by omega), wrap_nat (by omega)]
    by_cases e : rd t (i : Int) = a
    · refine Ev.ifp e (Ev.bind (in_ok t hb [a] (by simp)) ?_)
      rw [if_pos e]
      by_cases hin : inT t [a] = true
      · refine Ev.ifp hin (Ev.ifp (by omega) ?_)
        refine (ih (i + 1) (o ++ [(i : Int)]) (by omega) (by omega) (by simp; omega)).of_eq ?_
        rw [if_pos hin, if_pos hin]; simp
      · refine Ev.ifn hin ?_
        refine (ih (i + 1) o (by omega) (by omega) (by omega)).of_eq ?_
        rw [if_neg hin, if_neg hin]
    · refine Ev.ifn e ?_
      rw [if_neg e]
      exact (ih (i + 1) o (by omega) (by omega) (by omega)).of_eq (by simp)
def kidsT (t : List Int) (a : Int) : List Int := if inT t [a] = true then kdT t a 0 else []
theorem kids_ok (t : List Int) (hb : t.length ≤ 1000) (a : Int) : Ev (fun k => dom_Kids.f k t a) (kidsT t a) := by
  unfold dom_Kids.f
  exact (kids_l0 t hb a t.length 0 [] (by omega) (by omega) (by simp)).of_eq (by simp [kidsT])

section
variable {S : List (List Nat)} {r : Nat} {at_ par : Nat → Nat}
theorem Gd.rd_no (hD : Gd S r at_ par) {x : Nat} (hx : x < S.length) (h : ¬ Rch S (-1) r x) : rd (dtl S r) (x : Int) = -2 := by rw [rd_dtl hx, idv_no hD.lt h]
theorem Gd.rd_root (hD : Gd S r at_ par) : rd (dtl S r) (r : Int) = -1 := by rw [rd_dtl hD.lt, idv_root]
theorem Gd.rd_idm (hD : Gd S r at_ par) {x : Nat} (h : Rch S (-1) r x) (hr : x ≠ r) : ∃ z, Idm S r z x ∧ rd (dtl S r) (x : Int) = (z : Int) := by
  obtain ⟨z, hz⟩ := hD.idm x h hr
  exact ⟨z, hz, by rw [rd_dtl (h.lt hD.gr hD.lt), idv_idm hD.pl hr hz]⟩
theorem Gd.way_no (hD : Gd S r at_ par) {x : Nat} (hx : x < S.length) (h : ¬ Rch S (-1) r x) : way (dtl S r) (x : Int) = none := by
  cases hw : way (dtl S r) (x : Int) with
  | none => rfl
  | some l =>
    have h1 := (way_form hw).2.2.2
    rw [hD.rd_no hx h] at h1
    rcases h1 with ⟨h1, _⟩ | ⟨_, m, _, h2⟩
    · omega
    · rw [show way (dtl S r) (-2) = none from pth_out (.inl (by omega))] at h2; cases h2
theorem Gd.way_rch (hD : Gd S r at_ par) : ∀ (n x : Nat), at_ x ≤ n → Rch S (-1) r x → ∃ l, pth (dtl S r) (at_ x + 1) (x : Int) = some l ∧ ∀ a : Int, a ∈ l ↔ ∃ d : Nat, a = (d : Int) ∧ Dm S r d x := by
  intro n
  induction n with
  | zero =>
    intro x hn hx
    by_cases e : x = r
    · subst e
      refine ⟨[(x : Int)], pth_top (by omega) (by rw [dtl_length]; have := hD.lt; omega) hD.rd_root, fun a => ?_⟩
      rw [List.mem_singleton]
      exact ⟨fun h => ⟨x, h, dm_refl hx⟩, fun ⟨d, h1, h2⟩ => by rw [h1, dm_of_root h2]⟩
    · have := (hD.pl.par x hx e).2.2; omega
  | succ n ih =>
    intro x hn hx
    have hxl := hx.lt hD.gr hD.lt
    by_cases e : x = r
    · subst e
      refine ⟨[(x : Int)], pth_top (by omega) (by rw [dtl_length]; have := hD.lt; omega) hD.rd_root, fun a => ?_⟩
      rw [List.mem_singleton]
      exact ⟨fun h => ⟨x, h, dm_refl hx⟩, fun ⟨d, h1, h2⟩ => by rw [h1, dm_of_root h2]⟩
    · obtain ⟨z, hz, hrd⟩ := hD.rd_idm hx e
      have hzR := dm_rch hz.1
      have hzl : at_ z < at_ x := Nat.lt_of_le_of_ne (dm_le hD.pl _ _ (Nat.le_refl _) hz.1) (fun e2 => hz.2.1 (hD.pl.inj z x hzR hx e2))
      obtain ⟨m, h1, h2⟩ := ih z (by omega) hzR
      refine ⟨(x : Int) :: m, ?_, fun a => ?_⟩
      · rw [pth_step (by omega) (by rw [dtl_length]; omega) (by rw [hrd]; omega), hrd, pth_more (show at_ z + 1 ≤ at_ x by omega) h1]; rfl
      · rw [List.mem_cons, h2]
        constructor
        · rintro (h | ⟨d, h3, h4⟩)
          · exact ⟨x, h, dm_refl hx⟩
          · exact ⟨d, h3, dm_trans h4 hz.1⟩
        · rintro ⟨d, h3, h4⟩
          by_cases e2 : d = x
          · exact .inl (by rw [h3, e2])
          · exact .inr ⟨d, h3, hz.2.2 d h4 e2⟩
theorem Gd.way (hD : Gd S r at_ par) {x : Nat} (hx : Rch S (-1) r x) : ∃ l, way (dtl S r) (x : Int) = some l ∧ ∀ a : Int, a ∈ l ↔ ∃ d : Nat, a = (d : Int) ∧ Dm S r d x := by
  obtain ⟨l, h1, h2⟩ := hD.way_rch _ x (Nat.le_refl _) hx
  exact ⟨l, pth_more (by rw [dtl_length]; exact hD.atn x hx) h1, h2⟩
theorem Gd.way_iff (hD : Gd S r at_ par) {x : Nat} (hx : x < S.length) : (∃ l, GP.way (dtl S r) (x : Int) = some l) ↔ Rch S (-1) r x := by
  constructor
  · rintro ⟨l, h⟩
    refine Classical.byContradiction (fun hn => ?_)
    rw [hD.way_no hx hn] at h; cases h
  · intro h; obtain ⟨l, h1, _⟩ := hD.way h; exact ⟨l, h1⟩
theorem Gd.rgo (hD : Gd S r at_ par) (d : Nat) : ∀ i : Nat, i + d = S.length → rgo (dtl S r) d i (if r < i then 1 else 0) = true := by
  induction d with
  | zero =>
    intro i hi
    rw [if_pos (by have := hD.lt; omega)]; rfl
  | succ d ih =>
    intro i hi
    have h1 : ¬ (rd (dtl S r) (i : Int) ≠ -2 ∧ GP.way (dtl S r) (i : Int) = none) := by
      rintro ⟨h1, h2⟩
      by_cases hR : Rch S (-1) r i
      · obtain ⟨l, h3, _⟩ := hD.way hR; rw [h2] at h3; cases h3
      · exact h1 (hD.rd_no (by omega) hR)
    rw [GP.rgo, if_neg h1]
    have h2 := ih (i + 1) (by omega)
    by_cases e : i = r
    · rw [e, hD.rd_root, if_pos rfl, if_neg (Nat.lt_irrefl _)]
      rw [e, if_pos (Nat.lt_succ_self _)] at h2
      exact h2
    · have h3 : rd (dtl S r) (i : Int) ≠ -1 := by
        by_cases hR : Rch S (-1) r i
        · obtain ⟨z, _, h4⟩ := hD.rd_idm hR e; rw [h4]; omega
        · rw [hD.rd_no (by omega) hR]; omega
      rw [if_neg h3]
      by_cases hlt : r < i
      · rw [if_pos hlt]; rw [if_pos (by omega)] at h2; exact h2
      · rw [if_neg hlt]; rw [if_neg (by omega)] at h2; exact h2
theorem Gd.rgt (hD : Gd S r at_ par) : rgt (dtl S r) = true := by
  show GP.rgo (dtl S r) (dtl S r).length 0 0 = true
  rw [dtl_length]
  have := hD.rgo S.length 0 (by omega)
  simpa using this
theorem Gd.inT2 (hD : Gd S r at_ par) {a b : Nat} (ha : a < S.length) (hb : b < S.length) : inT (dtl S r) [(a : Int), (b : Int)] = true ↔ Rch S (-1) r a ∧ Rch S (-1) r b := by
  rw [inT_two, hD.way_iff ha, hD.way_iff hb]
  exact ⟨fun h => h.2, fun h => ⟨hD.rgt, h⟩⟩
theorem Gd.inT1 (hD : Gd S r at_ par) {a : Nat} (ha : a < S.length) : inT (dtl S r) [(a : Int)] = true ↔ Rch S (-1) r a := by
  rw [inT_one, hD.way_iff ha]
  exact ⟨fun h => h.2, fun h => ⟨hD.rgt, h⟩⟩
theorem fst2_way {t : List Int} {Q : List Int} : ∀ {l : List Int} {a : Int}, GP.way t a = some l → ∀ {c}, c ∈ l → c ∈ Q → fst2 l Q ∈ l ∧ fst2 l Q ∈ Q ∧ ∃ ml, GP.way t (fst2 l Q) = some ml ∧ c ∈ ml := by
  intro l
  induction l with
  | nil => intro a _ c hc; cases hc
  | cons x l ih =>
    intro a h c hc hcQ
    obtain ⟨_, _, _, h4⟩ := way_form h
    have hxa : x = a := by rcases h4 with ⟨_, e⟩ | ⟨_, m, e, _⟩ <;> injection e
    by_cases hx : x ∈ Q
    · have e : fst2 (x :: l) Q = x := by unfold fst2; rw [List.find?_cons, decide_eq_true hx]; rfl
      rw [e]
      exact ⟨List.mem_cons_self .., hx, x :: l, by rw [hxa] at h ⊢; exact h, hc⟩
    · have e : fst2 (x :: l) Q = fst2 l Q := by unfold fst2; rw [List.find?_cons, decide_eq_false hx]
      rw [e]
      have hcl : c ∈ l := by
        rcases List.mem_cons.mp hc with e2 | e2
        · subst e2; exact absurd hcQ hx
        · exact e2
      rcases h4 with ⟨_, e2⟩ | ⟨_, m, e2, h5⟩
      · injection e2 with _ e3; rw [e3] at hcl; cases hcl
      · injection e2 with _ e3
        subst e3
        obtain ⟨g1, g2, g3⟩ := ih h5 hcl hcQ
        exact ⟨List.mem_cons_of_mem _ g1, g2, g3⟩
/-- Where two meet: the nearest of those that dominate both. -/
theorem Gd.meet (hD : Gd S r at_ par) {a b : Nat} (ha : Rch S (-1) r a) (hb : Rch S (-1) r b) : ∃ m : Nat, meetT (dtl S r) (a : Int) (b : Int) = (m : Int) ∧ Dm S r m a ∧ Dm S r m b ∧ ∀ c, Dm S r c a → Dm S r c b → Dm S r c m := by
  obtain ⟨p, hp, hp2⟩ := hD.way ha
  obtain ⟨q, hq, hq2⟩ := hD.way hb
  have e : meetT (dtl S r) (a : Int) (b : Int) = fst2 p q := by unfold meetT; rw [if_pos hD.rgt, hp, hq]
  have hrp : (r : Int) ∈ p := (hp2 _).mpr ⟨r, rfl, dm_root ha⟩
  have hrq : (r : Int) ∈ q := (hq2 _).mpr ⟨r, rfl, dm_root hb⟩
  obtain ⟨g1, g2, _⟩ := fst2_way hp hrp hrq
  obtain ⟨m, hm, hma⟩ := (hp2 _).mp g1
  obtain ⟨m', hm', hmb⟩ := (hq2 _).mp g2
  have emm : m = m' := by omega
  subst emm
  refine ⟨m, by rw [e, hm], hma, hmb, fun c h1 h2 => ?_⟩
  obtain ⟨_, _, ml, g3, g4⟩ := fst2_way hp ((hp2 _).mpr ⟨c, rfl, h1⟩) ((hq2 _).mpr ⟨c, rfl, h2⟩)
  obtain ⟨l, h5, h6⟩ := hD.way (dm_rch hma)
  rw [hm, h5] at g3; cases g3
  obtain ⟨d, h7, h8⟩ := (h6 _).mp g4
  rw [show c = d by omega]; exact h8
theorem Gd.meet_no (hD : Gd S r at_ par) {a b : Nat} (ha : a < S.length) (hb : b < S.length) (h : ¬ (Rch S (-1) r a ∧ Rch S (-1) r b)) : meetT (dtl S r) (a : Int) (b : Int) = -2 := by
  unfold meetT
  rw [if_pos hD.rgt]
  cases hp : GP.way (dtl S r) (a : Int) with
  | none => rfl
  | some p => cases hq : GP.way (dtl S r) (b : Int) with
    | none => rfl
    | some q => exact absurd ⟨(hD.way_iff ha).mp ⟨p, hp⟩, (hD.way_iff hb).mp ⟨q, hq⟩⟩ h
theorem Gd.over (hD : Gd S r at_ par) {a b : Nat} (ha : a < S.length) (hb : b < S.length) : overT (dtl S r) (a : Int) (b : Int) = true ↔ Dm S r a b := by
  unfold overT
  rw [Bool.and_eq_true, hD.inT2 ha hb]
  constructor
  · rintro ⟨⟨h1, h2⟩, h3⟩
    obtain ⟨m, g1, g2, g3, _⟩ := hD.meet h1 h2
    have : m = a := by have := eq_of_beq h3; omega
    rw [← this]; exact g3
  · intro h
    have h1 := dm_rch h
    refine ⟨⟨h1, h.1⟩, ?_⟩
    obtain ⟨m, g1, g2, g3, g4⟩ := hD.meet h1 h.1
    have : a = m := dm_antisymm hD.pl (g4 a (dm_refl h1) h) g2
    rw [g1, this]; simp
theorem Gd.over_eq (hD : Gd S r at_ par) {a b : Nat} (ha : a < S.length) (hb : b < S.length) (v : Bool) (h : v = true ↔ Dm S r a b) : overT (dtl S r) (a : Int) (b : Int) = v := by
  have h2 := hD.over ha hb
  rw [← h] at h2
  cases v <;> cases h3 : overT (dtl S r) (a : Int) (b : Int) <;> simp_all
end

theorem awake_ok : locksteplaw10_awake.f 100 = some true := by decide +kernel
theorem awake_ev : Ev (fun k => locksteplaw10_awake.f k) true := Ev.of_at (fun k => locksteplaw10_awake.mono k) awake_ok

theorem small_l0 (d : Nat) : ∀ (i : Nat) (s : List (List Int)), s.length ≤ big → i ≤ s.length → s.length - i = d → i ≤ 101 →
    ∃ b, Ev (fun k => lockstepref06_Small.l0 k s (i : Int)) b ∧ (b = true → s.length ≤ 101 ∧ ∀ l ∈ s.drop i, l.length ≤ 100) := by
  induction d with
  | zero =>
    intro i s hb hi hd h1
    refine ⟨true, Ev.succ ?_, fun _ => ⟨by omega, by rw [List.drop_of_length_le (by omega)]; simp⟩⟩
    simp only [lockstepref06_Small.l0]
    exact Ev.ifn (by omega) Ev.pure
  | succ d ih =>
    intro i s hb hi hd h1
    have hbb : big = 9223372036854775807 := rfl
    have hrd : rd_L1 s (i : Int) = s.getD i [] := by simp [rd_L1]
    by_cases hc : ((s.getD i []).length : Int) > 100
    · refine ⟨false, Ev.succ ?_, fun h => by cases h⟩
      simp only [lockstepref06_Small.l0]
      refine Ev.ifp (by omega) (Ev.ifp (by omega) (Ev.ifp (by rw [hrd]; exact hc) Ev.pure))
    · by_cases hc2 : (i : Int) > 100
      · refine ⟨false, Ev.succ ?_, fun h => by cases h⟩
        simp only [lockstepref06_Small.l0]
        refine Ev.ifp (by omega) (Ev.ifp (by omega) (Ev.ifn (by rw [hrd]; exact hc) (Ev.ifp hc2 Ev.pure)))
      · obtain ⟨b, he, hb'⟩ := ih (i + 1) s hb (by omega) (by omega) (by omega)
        refine ⟨b, Ev.succ ?_, fun h => ⟨(hb' h).1, ?_⟩⟩
        · simp only [lockstepref06_Small.l0]
          refine Ev.ifp (by omega) (Ev.ifp (by omega) (Ev.ifn (by rw [hrd]; exact hc) (Ev.ifn hc2 ?_)))
          rw [wrap_nat (by omega)]; exact he
        · rw [drop_getD s i [] (by omega)]
          intro l hl
          rcases List.mem_cons.mp hl with e | e
          · subst e; omega
          · exact (hb' h).2 l e
theorem small_ev (s : List (List Int)) (hb : s.length ≤ big) : ∃ b, Ev (fun k => lockstepref06_Small.f k s) b ∧ (b = true → s.length ≤ 101 ∧ ∀ l ∈ s, l.length ≤ 100) := by
  obtain ⟨b, h1, h2⟩ := small_l0 s.length 0 s hb (by omega) (by omega) (by omega)
  exact ⟨b, by unfold lockstepref06_Small.f; simpa using h1, by simpa using h2⟩

/-! #### Reach -/
def rbn (n : Nat) (s : Sn) : List Bool := (List.range n).map s
@[simp] theorem rbn_length (n : Nat) (s : Sn) : (rbn n s).length = n := by simp [rbn]
theorem rd_rbn (n : Nat) (s : Sn) {y : Nat} (h : y < n) : rdOf false (rbn n s) (y : Int) = s y := by
  simp only [rdOf, Int.toNat_natCast, rbn]; exact getD_map_range _ _ _ _ h
theorem set_rbn (n : Nat) (s : Sn) (y : Nat) : (rbn n s).set y true = rbn n (upd s y) :=
  set_map_range _ _ _ _ _ (by simp [upd]) (fun j hj => by simp [upd, hj])
/-- No way leads out of it. -/
def Closed (S : List (List Nat)) (w : Int) (C : Nat → Prop) : Prop := ∀ a, C a → ∀ y ∈ S.getD a [], (y : Int) ≠ w → C y
def Sub (S : List (List Nat)) (w : Int) (X Y : Sn) : Prop := (∀ z, X z = true → Y z = true) ∧ ∀ C, Closed S w C → (∀ z, X z = true → C z) → ∀ z, Y z = true → C z
theorem Sub.refl (S : List (List Nat)) (w : Int) (X : Sn) : Sub S w X X := ⟨fun _ h => h, fun _ _ h => h⟩
theorem Sub.trans {S : List (List Nat)} {w : Int} {X Y Z : Sn} (h1 : Sub S w X Y) (h2 : Sub S w Y Z) : Sub S w X Z :=
  ⟨fun z h => h2.1 z (h1.1 z h), fun C hC h => h2.2 C hC (h1.2 C hC h)⟩

theorem reach_l2 {S : List (List Nat)} (h : Gr S) (P : List (List Int)) (w : Int) (t i : Nat) (hi : i < S.length) (v : List Bool) (d : Nat) :
    ∀ (j : Nat) (X : Sn), (S.getD i []).length - j = d → j ≤ (S.getD i []).length →
    (∀ Y, Sub S w X Y → (X i = true → ∀ y ∈ (S.getD i []).drop j, (y : Int) ≠ w → Y y = true) → Ev (fun k => lockstepref06_Reach.l1 k w (rbn S.length Y) (t : Int) ((i + 1 : Nat) : Int) (up2 S) P) v) →
    Ev (fun k => lockstepref06_Reach.l2 k w (rbn S.length X) (t : Int) (i : Int) (j : Int) (up2 S) P) v := by
  have hle := h.le
  have hdeg := gr_len h hi
  induction d with
  | zero =>
    intro j X hd hj hK
    have hK' := hK X (Sub.refl _ _ _) (fun _ y hy => by rw [List.drop_of_length_le (by omega)] at hy; cases hy)
    have hj3 : Ev (fun k => lockstepref06_Reach.j3 k w (rbn S.length X) (t : Int) (i : Int) (j : Int) false (up2 S) P) v := by
      refine Ev.succ ?_; simp only [lockstepref06_Reach.j3]
      refine Ev.ifn (by decide) ?_
      rw [wrap_nat (by omega)]; exact hK'
    refine Ev.succ ?_; simp only [lockstepref06_Reach.l2]
    rw [rd_rbn _ _ hi, rdL_up, up_length]
    refine Ev.ifp (by omega) (Ev.ifp (by rw [rbn_length]; omega) ?_)
    by_cases hX : X i = true
    · refine Ev.ifp hX (Ev.ifp (by rw [up2_length]; omega) ?_)
      rw [decide_eq_false (by omega)]; exact hj3
    · exact Ev.ifn hX hj3
  | succ d ih =>
    intro j X hd hj hK
    have hj1 : j < (S.getD i []).length := by omega
    have hy := (h.row i hi).2 _ (getD_mem (d := 0) hj1)
    refine Ev.succ ?_; simp only [lockstepref06_Reach.l2]
    rw [rd_rbn _ _ hi, rdL_up, up_length]
    refine Ev.ifp (by omega) (Ev.ifp (by rw [rbn_length]; omega) ?_)
    by_cases hX : X i = true
    · refine Ev.ifp hX (Ev.ifp (by rw [up2_length]; omega) ?_)
      rw [decide_eq_true (by omega)]
      refine Ev.succ ?_; simp only [lockstepref06_Reach.j3]
      rw [rdL_up, up_length, rd_up]
      have hdr := drop_getD (S.getD i []) j 0 hj1
      have hmem : (S.getD i []).getD j 0 ∈ S.getD i [] := getD_mem hj1
      generalize (S.getD i []).getD j 0 = y at hy hdr hmem
      rw [hdr] at hK
      refine Ev.ifp trivial (Ev.ifp (by omega) (Ev.ifp (by rw [up2_length]; omega) (Ev.ifp (by omega) (Ev.ifp (by omega) ?_))))
      by_cases hw : (y : Int) = w
      · refine Ev.ifp hw ?_
        rw [wrap_nat (by omega)]
        refine ih (j + 1) X (by omega) (by omega) (fun Y hY hYi => hK Y hY (fun hXi z hz hzw => ?_))
        rcases List.mem_cons.mp hz with e | e
        · subst e; exact absurd hw hzw
        · exact hYi hXi z e hzw
      · refine Ev.ifn hw (Ev.ifp (by omega) (Ev.ifp (by rw [rbn_length]; omega) ?_))
        rw [wrap_nat (by omega), Int.toNat_natCast, set_rbn]
        have hs : Sub S w X (upd X y) := ⟨fun z hz => upd_true.mpr (.inr hz), fun C hC hXC z hz => by
          rcases upd_true.mp hz with e | e
          · subst e; exact hC i (hXC i hX) z hmem hw
          · exact hXC z e⟩
        refine ih (j + 1) (upd X y) (by omega) (by omega) (fun Y hY hYi => hK Y (hs.trans hY) (fun hXi z hz hzw => ?_))
        rcases List.mem_cons.mp hz with e | e
        · subst e; exact hY.1 z (upd_self _ _)
        · exact hYi (upd_true.mpr (.inr hXi)) z e hzw
    · refine Ev.ifn hX ?_
      refine Ev.succ ?_; simp only [lockstepref06_Reach.j3]
      refine Ev.ifn (by decide) ?_
      rw [wrap_nat (by omega)]; exact hK X (Sub.refl _ _ _) (fun hXi => absurd hXi hX)
theorem reach_l1 {S : List (List Nat)} (h : Gr S) (P : List (List Int)) (w : Int) (t : Nat) (ht : t < S.length) (v : List Bool) (d : Nat) :
    ∀ (i : Nat) (X : Sn), S.length - i = d → i ≤ S.length →
    (∀ Y, Sub S w X Y → (∀ a, i ≤ a → a < S.length → X a = true → ∀ y ∈ S.getD a [], (y : Int) ≠ w → Y y = true) → Ev (fun k => lockstepref06_Reach.l0 k w (rbn S.length Y) ((t + 1 : Nat) : Int) (up2 S) P) v) →
    Ev (fun k => lockstepref06_Reach.l1 k w (rbn S.length X) (t : Int) (i : Int) (up2 S) P) v := by
  have hle := h.le
  induction d with
  | zero =>
    intro i X hd hi hK
    refine Ev.succ ?_; simp only [lockstepref06_Reach.l1]
    refine Ev.ifn (by rw [rbn_length]; omega) ?_
    rw [wrap_nat (by omega)]
    exact hK X (Sub.refl _ _ _) (fun a h1 h2 => by omega)
  | succ d ih =>
    intro i X hd hi hK
    refine Ev.succ ?_; simp only [lockstepref06_Reach.l1]
    refine Ev.ifp (by rw [rbn_length]; omega) ?_
    refine reach_l2 h P w t i (by omega) v _ 0 X rfl (by omega) (fun Y hY hYi => ?_)
    refine ih (i + 1) Y (by omega) (by omega) (fun Z hZ hZi => hK Z (hY.trans hZ) (fun a h1 h2 hXa y hy hyw => ?_))
    by_cases e : a = i
    · subst e
      exact hZ.1 y (hYi hXa y (by simpa using hy) hyw)
    · exact hZi a (by omega) h2 (hY.1 a hXa) y hy hyw
noncomputable def rchb (S : List (List Nat)) (w : Int) (r : Nat) : Sn := fun z => @decide (Rch S w r z) (Classical.propDecidable _)
theorem rchb_true {S : List (List Nat)} {w : Int} {r z : Nat} : rchb S w r z = true ↔ Rch S w r z := by unfold rchb; exact @decide_eq_true_iff _ (Classical.propDecidable _)
theorem rch_closed (S : List (List Nat)) (w : Int) (r : Nat) : Closed S w (Rch S w r) := fun _ ha _ hy hw => .step ha hy hw
theorem closed_eq {S : List (List Nat)} {w : Int} {r : Nat} {X : Sn} (hr : X r = true) (hX : ∀ z, X z = true → Rch S w r z) (hc : Closed S w (fun z => X z = true)) : X = rchb S w r := by
  funext z
  have e : X z = true ↔ rchb S w r z = true := by
    rw [rchb_true]
    refine ⟨hX z, fun hz => ?_⟩
    induction hz with
    | base _ => exact hr
    | @step a y _ hy hw ih => exact hc a ih y hy hw
  cases h1 : X z <;> cases h2 : rchb S w r z
  · rfl
  · rw [h1, h2] at e; exact absurd (e.mpr rfl) (by decide)
  · rw [h1, h2] at e; exact absurd (e.mp rfl) (by decide)
  · rfl
theorem reach_l0 {S : List (List Nat)} (h : Gr S) (P : List (List Int)) (w : Int) (r : Nat) (hr : r < S.length) (d : Nat) :
    ∀ (t : Nat) (X : Sn), S.length - t = d → t ≤ S.length → X r = true → (∀ z, X z = true → Rch S w r z) → (Closed S w (fun z => X z = true) ∨ t + 1 + cnt S.length X ≤ S.length) →
    Ev (fun k => lockstepref06_Reach.l0 k w (rbn S.length X) (t : Int) (up2 S) P) (rbn S.length (rchb S w r)) := by
  have hle := h.le
  induction d with
  | zero =>
    intro t X hd ht hXr hX hI
    refine Ev.succ ?_; simp only [lockstepref06_Reach.l0]
    refine Ev.ifn (by rw [rbn_length]; omega) ?_
    rcases hI with hc | hc
    · rw [closed_eq hXr hX hc]; exact Ev.pure
    · omega
  | succ d ih =>
    intro t X hd ht hXr hX hI
    refine Ev.succ ?_; simp only [lockstepref06_Reach.l0]
    refine Ev.ifp (by rw [rbn_length]; omega) ?_
    refine reach_l1 h P w t (by omega) _ _ 0 X rfl (by omega) (fun Y hY hYa => ?_)
    refine ih (t + 1) Y (by omega) (by omega) (hY.1 r hXr) (hY.2 _ (rch_closed S w r) hX) ?_
    by_cases hc : Closed S w (fun z => X z = true)
    · refine .inl (fun a ha y hy hw => ?_)
      exact hY.1 y (hc a (hY.2 _ hc (fun _ hz => hz) a ha) y hy hw)
    · right
      rcases hI with hc' | hI
      · exact absurd hc' hc
      · have : ∃ a y, X a = true ∧ y ∈ S.getD a [] ∧ (y : Int) ≠ w ∧ X y = false := by
          refine Classical.byContradiction (fun hn => hc (fun a ha y hy hw => ?_))
          cases hq : X y with
          | true => exact hq
          | false => exact absurd ⟨a, y, ha, hy, hw, hq⟩ hn
        obtain ⟨a, y, ha, hy, hw, hq⟩ := this
        have haS := (hX a ha).lt h hr
        have := cnt_lt hY.1 ((h.row a haS).2 y hy) hq (hYa a (Nat.zero_le _) haS ha y hy hw)
        omega
theorem reach_ok {S : List (List Nat)} (h : Gr S) (P : List (List Int)) (w : Int) (r : Nat) (hr : r < S.length) : Ev (fun k => lockstepref06_Reach.f k (up2 S) P (r : Int) w) (rbn S.length (rchb S w r)) := by
  have hle := h.le
  unfold lockstepref06_Reach.f
  have e0 : List.replicate (((up2 S).length : Int)).toNat false = rbn S.length none' := by
    rw [up2_length, Int.toNat_natCast]
    apply List.ext_getElem
    · simp
    · intro j h1 h2; simp [rbn, none']
  refine Ev.ifp (by omega) (Ev.ifp (by rw [up2_length]; omega) ?_)
  rw [e0]
  simp only [Option.bind_some]
  by_cases hw : (r : Int) = w
  · refine Ev.ifp hw (Ev.pure.of_eq ?_)
    congr 1
    funext z
    cases hq : rchb S w r z with
    | false => rfl
    | true =>
      have h1 := rchb_true.mp hq
      exfalso
      induction h1 with
      | base h2 => exact h2 hw
      | step h1 _ _ ih => exact ih (rchb_true.mpr h1)
  · refine Ev.ifn hw (Ev.ifp (by omega) (Ev.ifp (by rw [rbn_length]; omega) ?_))
    rw [Int.toNat_natCast, set_rbn]
    have hu := cnt_upd (n := S.length) (s := none') hr rfl
    rw [cnt_none] at hu
    refine reach_l0 h P w r hr S.length 0 (upd none' r) (by omega) (by omega) (upd_self _ _) (fun z hz => ?_) (.inr (by omega))
    rcases upd_true.mp hz with e | e
    · subst e; exact .base hw
    · cases e
section
variable {S : List (List Nat)} {r : Nat} {at_ par : Nat → Nat}
theorem Gd.small (hD : Gd S r at_ par) : (dtl S r).length ≤ 1000 := by rw [dtl_length]; have := hD.gr.le; omega
theorem Gd.over_ev (hD : Gd S r at_ par) {a b : Nat} (ha : a < S.length) (hb : b < S.length) {v : Bool} (h : v = true ↔ Dm S r a b) : Ev (fun k => dom_Over.f k (dtl S r) (a : Int) (b : Int)) v :=
  (over_ok _ hD.small _ _).of_eq (hD.over_eq ha hb v h)
open Classical in
theorem Gd.over_ev' (hD : Gd S r at_ par) {a b : Nat} (ha : a < S.length) (hb : b < S.length) : Ev (fun k => dom_Over.f k (dtl S r) (a : Int) (b : Int)) (decide (Dm S r a b)) :=
  hD.over_ev ha hb decide_eq_true_iff
theorem Gd.meet_ev (hD : Gd S r at_ par) {a b : Nat} (ha : Rch S (-1) r a) (hb : Rch S (-1) r b) : ∃ m : Nat, Ev (fun k => dom_Meet.f k (dtl S r) (a : Int) (b : Int)) (m : Int) ∧ Dm S r m a ∧ Dm S r m b ∧ ∀ c, Dm S r c a → Dm S r c b → Dm S r c m := by
  obtain ⟨m, h1, h2⟩ := hD.meet ha hb
  exact ⟨m, (meet_ok _ hD.small _ _).of_eq h1, h2⟩
theorem Gd.meet_no_ev (hD : Gd S r at_ par) {a b : Nat} (ha : a < S.length) (hb : b < S.length) (h : ¬ (Rch S (-1) r a ∧ Rch S (-1) r b)) : Ev (fun k => dom_Meet.f k (dtl S r) (a : Int) (b : Int)) (-2) :=
  (meet_ok _ hD.small _ _).of_eq (hD.meet_no ha hb h)
end
theorem root_mod {a : Int} {n : Nat} (h : (Lit.int .u8 a).wf = true) (hn : 0 < n) : Int.tmod (wrap64 a) (n : Int) = ((a.toNat % n : Nat) : Int) ∧ a.toNat % n < n := by
  have h0 : 0 ≤ a ∧ a < 256 := by simp [Lit.wf, IntKind.min, IntKind.max, IntKind.signed, IntKind.bits] at h; omega
  refine ⟨?_, Nat.mod_lt _ hn⟩
  rw [wrap_id (by omega) (by omega)]
  obtain ⟨m, rfl⟩ : ∃ m : Nat, a = (m : Int) := ⟨a.toNat, by omega⟩
  rw [Int.toNat_natCast, Int.ofNat_tmod]
theorem order_nil (r : Int) : Ev (fun k => graph_Order.f k [] [] r) [] := order_no r (may_bad (s := []) (by simp) (by simp) (by decide) [])
theorem tree_nil (r : Int) : Ev (fun k => dom_Tree.f k [] [] r) [] := tree_no (order_nil r)

theorem getD_lt {S : List (List Nat)} {a y : Nat} (h : y ∈ S.getD a []) : a < S.length := by
  by_cases h1 : a < S.length
  · exact h1
  · rw [List.getD_eq_getElem?_getD, List.getElem?_eq_none (by omega)] at h; simp at h
theorem Rch.head {S : List (List Nat)} {w : Int} {a y b : Nat} (ha : (a : Int) ≠ w) (hy : y ∈ S.getD a []) (h : Rch S w y b) : Rch S w a b := Rch.trans (.step (.base ha) hy h.first) h

/-! #### the ways back -/
open Classical in
noncomputable def dmb (S : List (List Nat)) (a b : Nat) : Bool := decide (Dm S 0 a b)
theorem dmb_true {S : List (List Nat)} {a b : Nat} : dmb S a b = true ↔ Dm S 0 a b := by simp [dmb]
/-- The ways back from a block, of the first m of its ways. -/
noncomputable def rowb (S : List (List Nat)) (i m : Nat) : List S48 := (((S.getD i []).take m).filter fun b => dmb S b i).map fun b : Nat => (⟨(i : Int), (b : Int)⟩ : S48)
noncomputable def bkt (S : List (List Nat)) : Nat → List S48
  | 0 => []
  | i + 1 => bkt S i ++ rowb S i (S.getD i []).length
noncomputable def bks (S : List (List Nat)) : List S48 := bkt S S.length
theorem rowb_len {S : List (List Nat)} (hG : Gr S) {i : Nat} (hi : i < S.length) (m : Nat) : (rowb S i m).length ≤ 64 := by
  unfold rowb
  rw [List.length_map]
  have h1 := List.length_filter_le (fun b => dmb S b i) ((S.getD i []).take m)
  have h2 : ((S.getD i []).take m).length ≤ (S.getD i []).length := by rw [List.length_take]; omega
  have h3 := gr_len hG hi
  omega
theorem bkt_len {S : List (List Nat)} (hG : Gr S) : ∀ i, i ≤ S.length → (bkt S i).length ≤ 64 * i
  | 0, _ => by simp [bkt]
  | i + 1, hi => by
    have h1 := bkt_len hG i (by omega)
    have h2 := rowb_len hG (i := i) (by omega) (S.getD i []).length
    rw [bkt, List.length_append]; omega
theorem rowb_mem {S : List (List Nat)} {i m : Nat} {x : S48} (h : x ∈ rowb S i m) : ∃ b : Nat, x = ⟨(i : Int), (b : Int)⟩ ∧ b ∈ S.getD i [] ∧ Dm S 0 b i := by
  unfold rowb at h
  obtain ⟨b, hb, rfl⟩ := List.mem_map.mp h
  obtain ⟨h1, h2⟩ := List.mem_filter.mp hb
  exact ⟨b, rfl, List.mem_of_mem_take h1, dmb_true.mp h2⟩
theorem bkt_mem {S : List (List Nat)} {x : S48} : ∀ i, x ∈ bkt S i → ∃ a b : Nat, a < i ∧ x = ⟨(a : Int), (b : Int)⟩ ∧ Bck S a b
  | 0, h => by simp [bkt] at h
  | i + 1, h => by
    rw [bkt] at h
    rcases List.mem_append.mp h with h | h
    · obtain ⟨a, b, h1, h2, h3⟩ := bkt_mem i h; exact ⟨a, b, by omega, h2, h3⟩
    · obtain ⟨b, h1, h2, h3⟩ := rowb_mem h; exact ⟨i, b, by omega, h1, h2, h3⟩
theorem bkt_in {S : List (List Nat)} {a b : Nat} (h : Bck S a b) : ∀ i, a < i → (⟨(a : Int), (b : Int)⟩ : S48) ∈ bkt S i
  | 0, hi => by omega
  | i + 1, hi => by
    rw [bkt]
    by_cases e : a = i
    · subst e
      refine List.mem_append.mpr (.inr ?_)
      unfold rowb
      rw [List.take_length]
      exact List.mem_map.mpr ⟨b, List.mem_filter.mpr ⟨h.1, dmb_true.mpr h.2⟩, rfl⟩
    · exact List.mem_append.mpr (.inl (bkt_in h i (by omega)))
theorem bks_mem {S : List (List Nat)} {a b : Nat} : (⟨(a : Int), (b : Int)⟩ : S48) ∈ bks S ↔ Bck S a b := by
  constructor
  · intro h
    obtain ⟨a', b', _, e, h2⟩ := bkt_mem _ h
    injection e with e1 e2
    rw [show a = a' by omega, show b = b' by omega]; exact h2
  · intro h; exact bkt_in h _ (getD_lt h.1)
section
variable {S : List (List Nat)} {at_ par : Nat → Nat}
theorem over_dmb (hD : Gd S 0 at_ par) {a b : Nat} (ha : a < S.length) (hb : b < S.length) : Ev (fun k => dom_Over.f k (dtl S 0) (a : Int) (b : Int)) (dmb S a b) := hD.over_ev ha hb dmb_true
theorem backs_l1 (hD : Gd S 0 at_ par) {i : Nat} (hi : i < S.length) (v : List S48) (H : Ev (fun k => loop_Backs.l0 k (dtl S 0) (bkt S (i + 1)) (up2 S) (S.length : Int) ((i + 1 : Nat) : Int)) v) (d : Nat) : ∀ m, m ≤ (S.getD i []).length → (S.getD i []).length - m = d →
    Ev (fun k => loop_Backs.l1 k (dtl S 0) (bkt S i ++ rowb S i m) (i : Int) (up2 S) (S.length : Int) (i : Int) (up (S.getD i [])) ((S.getD i []).length : Int) (m : Int)) v := by
  have hG := hD.gr
  have hle := hG.le
  have hrl := gr_len hG hi
  have hbl := bkt_len hG i (by omega)
  induction d with
  | zero =>
    intro m hm hd
    obtain rfl : m = (S.getD i []).length := by omega
    refine Ev.succ ?_; simp only [loop_Backs.l1]
    refine Ev.ifn (by omega) ?_
    rw [wrap_nat (by omega)]; exact H
  | succ d ih =>
    intro m hm hd
    have hml : m < (S.getD i []).length := by omega
    have hy := (hG.row i hi).2 _ (getD_mem (d := 0) hml)
    have h2 := rowb_len hG hi m
    have hn := ih (m + 1) (by omega) (by omega)
    have hs : rowb S i (m + 1) = rowb S i m ++ (if dmb S ((S.getD i []).getD m 0) i = true then [⟨(i : Int), (((S.getD i []).getD m 0 : Nat) : Int)⟩] else []) := by
      unfold rowb
      rw [take_getD _ m 0 hml, List.filter_append, List.map_append]
      cases e : dmb S ((S.getD i []).getD m 0) i with
      | true => rw [List.filter_cons_of_pos (p := fun b => dmb S b i) e]; rfl
      | false => rw [List.filter_cons_of_neg (p := fun b => dmb S b i) (show ¬ dmb S _ i = true by rw [e]; decide)]; simp
    rw [hs] at hn
    refine Ev.succ ?_; simp only [loop_Backs.l1]
    rw [rd_up, wrap_nat (by omega), up_length]
    refine Ev.ifp (by omega) (Ev.ifp (by omega) (Ev.ifp (by omega) (Ev.bind (over_dmb hD hy hi) ?_)))
    cases e : dmb S ((S.getD i []).getD m 0) i with
    | true =>
      rw [e, if_pos rfl, ← List.append_assoc] at hn
      exact Ev.ifp rfl (Ev.ifp (by rw [List.length_append]; omega) hn)
    | false =>
      rw [e, if_neg (by decide), List.append_nil] at hn
      exact Ev.ifn (by decide) hn
theorem backs_l0 (hD : Gd S 0 at_ par) (d : Nat) : ∀ i, i ≤ S.length → S.length - i = d → Ev (fun k => loop_Backs.l0 k (dtl S 0) (bkt S i) (up2 S) (S.length : Int) (i : Int)) (bks S) := by
  induction d with
  | zero =>
    intro i hi hd
    obtain rfl : i = S.length := by omega
    refine Ev.succ ?_; simp only [loop_Backs.l0]
    exact Ev.ifn (by omega) Ev.pure
  | succ d ih =>
    intro i hi hd
    have h := backs_l1 hD (i := i) (by omega) (bks S) (ih (i + 1) (by omega) (by omega)) _ 0 (Nat.zero_le _) rfl
    rw [show rowb S i 0 = [] by simp [rowb], List.append_nil] at h
    refine Ev.succ ?_; simp only [loop_Backs.l0]
    rw [rdL_up, up_length]
    exact Ev.ifp (by omega) (Ev.ifp (by omega) (Ev.ifp (by rw [up2_length]; omega) h))
theorem tree_ok0 (hG : Gr S) : Ev (fun k => dom_Tree.f k (up2 S) (up2 (pr S)) 0) (dtl S 0) := by
  have := tree_ok hG (r := 0) hG.pos
  exact this
theorem backs_ok (hG : Gr S) : Ev (fun k => loop_Backs.f k (up2 S) (up2 (pr S))) (bks S) := by
  obtain ⟨at_, par, hD⟩ := gd_ex hG hG.pos
  unfold loop_Backs.f
  refine Ev.bind (tree_ok0 hG) ?_
  rw [up2_length]
  exact backs_l0 hD S.length 0 (Nat.zero_le _) rfl
end
/-! #### no graph: no tree, no ways back -/
theorem overT_nil (a b : Int) : overT [] a b = false := by
  unfold overT
  rw [show inT [] [a, b] = false from rfl]; rfl
theorem over_nil (a b : Int) : Ev (fun k => dom_Over.f k [] a b) false := (over_ok [] (by simp) a b).of_eq (overT_nil a b)
theorem backs_no_l1 (s : List (List Int)) (i : Nat) (hi : (i : Int) < 9223372036854775807) (r : List Int) (hr : r.length ≤ big) (H : Ev (fun k => loop_Backs.l0 k [] [] s (s.length : Int) ((i + 1 : Nat) : Int)) []) (d : Nat) : ∀ m, m ≤ r.length → r.length - m = d →
    Ev (fun k => loop_Backs.l1 k [] [] (i : Int) s (s.length : Int) (i : Int) r (r.length : Int) (m : Int)) [] := by
  have hbb : big = 9223372036854775807 := rfl
  induction d with
  | zero =>
    intro m hm hd
    refine Ev.succ ?_; simp only [loop_Backs.l1]
    refine Ev.ifn (by omega) ?_
    rw [wrap_nat (by omega)]; exact H
  | succ d ih =>
    intro m hm hd
    refine Ev.succ ?_; simp only [loop_Backs.l1]
    refine Ev.ifp (by omega) (Ev.ifp (by omega) (Ev.ifp (by omega) (Ev.bind (over_nil _ _) (Ev.ifn (by decide) ?_))))
    rw [wrap_nat (i := m) (by omega)]
    exact ih (m + 1) (by omega) (by omega)
theorem backs_no_l0 (s : List (List Int)) (hb : s.length ≤ big) (hr : ∀ l ∈ s, l.length ≤ big) (d : Nat) : ∀ i, i ≤ s.length → s.length - i = d → Ev (fun k => loop_Backs.l0 k [] [] s (s.length : Int) (i : Int)) [] := by
  have hbb : big = 9223372036854775807 := rfl
  induction d with
  | zero =>
    intro i hi hd
    refine Ev.succ ?_; simp only [loop_Backs.l0]
    exact Ev.ifn (by omega) Ev.pure
  | succ d ih =>
    intro i hi hd
    refine Ev.succ ?_; simp only [loop_Backs.l0]
    rw [show rd_L1 s (i : Int) = s.getD i [] by simp [rd_L1]]
    have hrow := hr _ (getD_mem (l := s) (i := i) (d := []) (by omega))
    refine Ev.ifp (by omega) (Ev.ifp (by omega) (Ev.ifp (by omega) ?_))
    exact backs_no_l1 s i (by omega) _ hrow (ih (i + 1) (by omega) (by omega)) _ 0 (Nat.zero_le _) rfl
theorem backs_no {s p : List (List Int)} (hb : s.length ≤ big) (hr : ∀ l ∈ s, l.length ≤ big) (hm : Ev (fun k => graph_May.f k s p) false) : Ev (fun k => loop_Backs.f k s p) [] := by
  unfold loop_Backs.f
  exact Ev.bind (tree_no (order_no 0 hm)) (backs_no_l0 s hb hr s.length 0 (Nat.zero_le _) rfl)

/-! #### where the ways back to a head come from -/
noncomputable def lat (S : List (List Nat)) (i h : Nat) : List Nat := (List.range i).filter fun a => decide (h ∈ S.getD a []) && dmb S h a
noncomputable def lats (S : List (List Nat)) (h : Nat) : List Nat := lat S S.length h
theorem mem_lats {S : List (List Nat)} {h a : Nat} : a ∈ lats S h ↔ Bck S a h := by
  unfold lats lat Bck
  rw [List.mem_filter, List.mem_range, Bool.and_eq_true, decide_eq_true_eq, dmb_true]
  exact ⟨fun h => h.2, fun h => ⟨getD_lt h.1, h⟩⟩
theorem lat_len {S : List (List Nat)} {i h : Nat} : (lat S i h).length ≤ i := by
  have := List.length_filter_le (fun a => decide (h ∈ S.getD a []) && dmb S h a) (List.range i)
  rw [List.length_range] at this; exact this
theorem nodup_pick {l : List Nat} (hn : l.Nodup) (p : Nat → Bool) (x : Nat) : (l.filter p).filter (fun b => decide (b = x)) = if x ∈ l ∧ p x = true then [x] else [] := by
  induction l with
  | nil => simp
  | cons a l ih =>
    have hn' := List.nodup_cons.mp hn
    have ih := ih hn'.2
    by_cases hpa : p a = true
    · rw [List.filter_cons_of_pos hpa]
      by_cases e : a = x
      · subst e
        rw [List.filter_cons_of_pos (by simp), ih, if_neg (fun h => hn'.1 h.1), if_pos ⟨List.mem_cons_self .., hpa⟩]
      · rw [List.filter_cons_of_neg (by simpa using e), ih]
        by_cases h2 : x ∈ l ∧ p x = true
        · rw [if_pos h2, if_pos ⟨List.mem_cons_of_mem _ h2.1, h2.2⟩]
        · rw [if_neg h2, if_neg (fun h => h2 ⟨(List.mem_cons.mp h.1).resolve_left (fun e2 => e e2.symm), h.2⟩)]
    · rw [List.filter_cons_of_neg hpa, ih]
      by_cases h2 : x ∈ l ∧ p x = true
      · rw [if_pos h2, if_pos ⟨List.mem_cons_of_mem _ h2.1, h2.2⟩]
      · rw [if_neg h2, if_neg (fun h => h2 ⟨(List.mem_cons.mp h.1).resolve_left (fun e2 => by subst e2; exact hpa h.2), h.2⟩)]
theorem from_rowb {S : List (List Nat)} (hG : Gr S) {i : Nat} (hi : i < S.length) (h : Nat) : fromOf (rowb S i (S.getD i []).length) (h : Int) = if h ∈ S.getD i [] ∧ dmb S h i = true then [(i : Int)] else [] := by
  unfold rowb fromOf
  rw [List.take_length, List.filter_map]
  have e : ((fun b : S48 => b.f1 == (h : Int)) ∘ fun b : Nat => (⟨(i : Int), (b : Int)⟩ : S48)) = fun b => decide (b = h) := by
    funext b
    show ((b : Int) == (h : Int)) = decide (b = h)
    by_cases e : b = h
    · subst e; simp
    · rw [decide_eq_false e]; simp; omega
  rw [e, nodup_pick (gr_nodup hG hi) (fun b => dmb S b i) h]
  split <;> rfl
theorem from_append (a b : List S48) (h : Int) : fromOf (a ++ b) h = fromOf a h ++ fromOf b h := by unfold fromOf; rw [List.filter_append, List.map_append]
theorem from_bkt {S : List (List Nat)} (hG : Gr S) (h : Nat) : ∀ i, i ≤ S.length → fromOf (bkt S i) (h : Int) = up (lat S i h)
  | 0, _ => by simp [bkt, fromOf, lat, up]
  | i + 1, hi => by
    rw [bkt, from_append, from_bkt hG h i (by omega), from_rowb hG (by omega)]
    unfold lat
    rw [List.range_succ, List.filter_append, up_append]
    congr 1
    by_cases e : h ∈ S.getD i [] ∧ dmb S h i = true
    · rw [if_pos e, List.filter_cons_of_pos (by rw [Bool.and_eq_true, decide_eq_true_eq]; exact e)]; rfl
    · rw [if_neg e, List.filter_cons_of_neg (by rw [Bool.and_eq_true, decide_eq_true_eq]; exact e)]; rfl
theorem from_bks {S : List (List Nat)} (hG : Gr S) (h : Nat) : fromOf (bks S) (h : Int) = up (lats S h) := from_bkt hG h S.length (Nat.le_refl _)

/-! #### a loop's blocks -/
open Classical in
noncomputable def lpb (S : List (List Nat)) (h : Nat) : Sn := fun x => decide (Lp S h x)
theorem lpb_true {S : List (List Nat)} {h x : Nat} : lpb S h x = true ↔ Lp S h x := by simp [lpb]
/-- What going back from the ways' ends has come to. -/
structure Lb (S : List (List Nat)) (h : Nat) (m : Sn) (st : List Nat) : Prop where
  lt : ∀ y, m y = true → y < S.length
  hd : m h = true
  slt : ∀ y ∈ st, y < S.length
  stk : ∀ y ∈ st, y = h ∨ ∃ l, Bck S l h ∧ Rch S (h : Int) y l
  sound : ∀ y, m y = true → Lp S h y
  frm : ∀ l, Bck S l h → m l = true ∨ l ∈ st
  clo : ∀ a, m a = true → a ≠ h → ∀ p, a ∈ S.getD p [] → Rch S (-1) 0 p → m p = true ∨ p ∈ st
theorem Lb.all {S : List (List Nat)} {h : Nat} {m : Sn} (hB : Lb S h m []) : m = lpb S h := by
  funext x
  have hh : m x = true ↔ lpb S h x = true := by
    rw [lpb_true]
    refine ⟨hB.sound x, fun hx => ?_⟩
    rcases hx with rfl | ⟨h1, l, h2, h3⟩
    · exact hB.hd
    · have hl : m l = true := (hB.frm l h2).resolve_right (by simp)
      have key : ∀ z, Rch S (h : Int) x z → m z = true → m x = true := by
        intro z hz
        induction hz with
        | base _ => exact fun hm => hm
        | @step a y ha hy hw ih =>
          intro hm
          exact ih ((hB.clo y hm (fun e => hw (by rw [e])) a hy (h1.trans ha.any)).resolve_right (by simp))
      exact key l h3 hl
  cases e : m x with
  | true => exact (hh.mp e).symm
  | false => cases e2 : lpb S h x with
    | true => rw [hh.mpr e2] at e; cases e
    | false => rfl
section
variable {S : List (List Nat)} {at_ par : Nat → Nat}
theorem body_l1 (hG : Gr S) (m : Sn) (d : Nat) : ∀ i, i ≤ S.length → S.length - i = d → Ev (fun k => loop_body.l1 k (rb m) (up ((List.range i).filter m)) (S.length : Int) (i : Int)) (up ((List.range S.length).filter m)) := by
  have hle := hG.le
  induction d with
  | zero =>
    intro i hi hd
    obtain rfl : i = S.length := by omega
    refine Ev.succ ?_; simp only [loop_body.l1]
    exact Ev.ifn (by omega) Ev.pure
  | succ d ih =>
    intro i hi hd
    have h1 := List.length_filter_le m (List.range i)
    rw [List.length_range] at h1
    have h2 := ih (i + 1) (by omega) (by omega)
    rw [List.range_succ, List.filter_append] at h2
    refine Ev.succ ?_; simp only [loop_body.l1]
    refine Ev.ifp (by omega) (Ev.ifp (by omega) (Ev.ifp (by omega) ?_))
    rw [rd_rb _ (by omega), wrap_nat (by omega), ← up_snoc]
    cases e : m i with
    | true =>
      rw [List.filter_cons_of_pos e] at h2
      exact Ev.ifp rfl (Ev.ifp (by rw [up_length]; omega) h2)
    | false =>
      rw [List.filter_cons_of_neg (by simp [e]), List.filter_nil, List.append_nil] at h2
      exact Ev.ifn (by decide) h2
theorem body_l0 (hD : Gd S 0 at_ par) {h : Nat} (hh : h < S.length) (M : Nat) : ∀ (m : Sn) (st : List Nat), Lb S h m st → st.length + 65 * cnt S.length m ≤ M → M ≤ 100000 →
    Ev (fun k => loop_body.l0 k (dtl S 0) (rb m) (up st) (up2 S) (up2 (pr S))) (up ((List.range S.length).filter (lpb S h))) := by
  have hG := hD.gr
  have hle := hG.le
  induction M with
  | zero =>
    intro m st hB hM _
    obtain rfl : st = [] := List.length_eq_zero_iff.mp (by omega)
    refine Ev.succ ?_; simp only [loop_body.l0]
    refine Ev.ifn (by simp) ?_
    rw [up2_length, ← hB.all]
    exact body_l1 hG m S.length 0 (Nat.zero_le _) rfl
  | succ M ih =>
    intro m st hB hM hC
    rcases List.eq_nil_or_concat st with rfl | ⟨st0, x, rfl⟩
    · refine Ev.succ ?_; simp only [loop_body.l0]
      refine Ev.ifn (by simp) ?_
      rw [up2_length, ← hB.all]
      exact body_l1 hG m S.length 0 (Nat.zero_le _) rfl
    · rw [List.concat_eq_append] at *
      have hl : (st0 ++ [x]).length = st0.length + 1 := by simp
      have hx := hB.slt x (by simp)
      have e1 : wrap64 (((up (st0 ++ [x])).length : Int) - 1) = (st0.length : Int) := by rw [up_length, hl, wrap_id (by omega) (by omega)]; omega
      have hsl : ∀ y ∈ st0, y < S.length := fun y hy => hB.slt y (List.mem_append.mpr (.inl hy))
      have hsk : ∀ y ∈ st0, y = h ∨ ∃ l, Bck S l h ∧ Rch S (h : Int) y l := fun y hy => hB.stk y (List.mem_append.mpr (.inl hy))
      have dropx : (m x = true ∨ ¬ Rch S (-1) 0 x) → Lb S h m st0 := by
        intro hc
        have hkeep : ∀ p, (Rch S (-1) 0 p) → (m p = true ∨ p ∈ st0 ++ [x]) → m p = true ∨ p ∈ st0 := by
          intro p hp h1
          rcases h1 with h1 | h1
          · exact .inl h1
          · rcases List.mem_append.mp h1 with h1 | h1
            · exact .inr h1
            · have e := List.mem_singleton.mp h1
              subst e
              exact .inl (hc.resolve_right (fun h2 => h2 hp))
        exact ⟨hB.lt, hB.hd, hsl, hsk, hB.sound, fun l h1 => hkeep l h1.2.1 (hB.frm l h1), fun a ha hne p hp hr => hkeep p hr (hB.clo a ha hne p hp hr)⟩
      refine Ev.succ ?_; simp only [loop_body.l0]
      rw [e1, rd_snoc]
      refine Ev.ifp (by rw [up_length]; omega) (Ev.ifp (by omega) (Ev.ifp (by rw [up_length]; omega) (Ev.ifp (by rw [up_length]; omega) ?_)))
      rw [up_snoc, Int.toNat_natCast, List.take_left' (by simp)]
      simp only [Option.bind_some]
      refine Ev.ifp (by omega) (Ev.ifp (by omega) ?_)
      rw [rd_rb _ (by omega)]
      rw [hl] at hM
      cases e : m x with
      | true => exact Ev.ifp rfl (ih m st0 (dropx (.inl e)) (by omega) (by omega))
      | false =>
        refine Ev.ifn (by decide) (Ev.bind (over_dmb hD hx hx) ?_)
        by_cases hr : Rch S (-1) 0 x
        · have hu := cnt_upd (n := S.length) hx e
          have hpl := gr_len (gr_pr hG) (i := x) (by rw [pr_length]; exact hx)
          have hxh : x ≠ h := by rintro rfl; rw [hB.hd] at e; cases e
          obtain ⟨l, hl1, hl2⟩ := (hB.stk x (by simp)).resolve_left hxh
          refine Ev.ifp (dmb_true.mpr (dm_refl hr)) (Ev.ifp (by rw [up2_length, pr_length]; omega) ?_)
          rw [rdL_up, Int.toNat_natCast, set_rb, ← up_append, up_length, up_length]
          refine Ev.ifp (by omega) (ih (upd m x) (st0 ++ (pr S).getD x []) ?_ (by rw [List.length_append]; omega) (by omega))
          have hup : ∀ y, m y = true → upd m x y = true := fun y hy => upd_true.mpr (.inr hy)
          have hkeep : ∀ p, (m p = true ∨ p ∈ st0 ++ [x]) → upd m x p = true ∨ p ∈ st0 ++ (pr S).getD x [] := by
            intro p h1
            rcases h1 with h1 | h1
            · exact .inl (hup p h1)
            · rcases List.mem_append.mp h1 with h1 | h1
              · exact .inr (List.mem_append.mpr (.inl h1))
              · exact .inl (upd_true.mpr (.inl (List.mem_singleton.mp h1)))
          refine ⟨fun y hy => ?_, hup h hB.hd, fun y hy => ?_, fun y hy => ?_, fun y hy => ?_, fun l h1 => hkeep l (hB.frm l h1), fun a ha hne p hp hrp => ?_⟩
          · rcases upd_true.mp hy with rfl | hy
            · exact hx
            · exact hB.lt y hy
          · rcases List.mem_append.mp hy with hy | hy
            · exact hsl y hy
            · exact ((mem_pr hx).mp hy).1
          · rcases List.mem_append.mp hy with hy | hy
            · exact hsk y hy
            · by_cases e2 : y = h
              · exact .inl e2
              · exact .inr ⟨l, hl1, Rch.head (by omega) ((mem_pr hx).mp hy).2 hl2⟩
          · rcases upd_true.mp hy with rfl | hy
            · exact .inr ⟨hr, l, hl1, hl2⟩
            · exact hB.sound y hy
          · rcases upd_true.mp ha with rfl | ha
            · exact .inr (List.mem_append.mpr (.inr ((mem_pr hx).mpr ⟨getD_lt hp, hp⟩)))
            · exact hkeep p (hB.clo a ha hne p hp hrp)
        · refine Ev.ifn (fun hc => hr (dmb_true.mp hc).1) (ih m st0 (dropx (.inr hr)) (by omega) (by omega))
theorem body_ok (hD : Gd S 0 at_ par) {h : Nat} (hh : h < S.length) : Ev (fun k => loop_body.f k (up2 S) (up2 (pr S)) (dtl S 0) (h : Int) (up (lats S h))) (up ((List.range S.length).filter (lpb S h))) := by
  have hle := hD.gr.le
  have hll : (lats S h).length ≤ S.length := lat_len
  unfold loop_body.f
  refine Ev.ifp (by omega) (Ev.ifp (by omega) ?_)
  rw [clone_ok _ (by rw [up_length]; omega)]
  simp only [Option.bind_some]
  have e0 : List.replicate 64 false = rb none' := by
    apply List.ext_getElem
    · simp [rb]
    · intro j h1 h2; rw [List.getElem_replicate]; simp [rb, none']
  rw [e0, Int.toNat_natCast, set_rb]
  have hu := cnt_upd (n := S.length) (s := none') hh rfl
  rw [cnt_none] at hu
  refine body_l0 hD hh (64 + 65 * 64) (upd none' h) (lats S h) ?_ (by omega) (by omega)
  refine ⟨fun y hy => ?_, upd_self _ _, fun y hy => getD_lt (mem_lats.mp hy).1, fun y hy => ?_, fun y hy => ?_, fun l h1 => .inr (mem_lats.mpr h1), fun a ha hne => ?_⟩
  · rcases upd_true.mp hy with rfl | hy
    · exact hh
    · cases hy
  · by_cases e : y = h
    · exact .inl e
    · exact .inr ⟨y, mem_lats.mp hy, .base (by omega)⟩
  · rcases upd_true.mp hy with rfl | hy
    · exact .inl rfl
    · cases hy
  · rcases upd_true.mp ha with rfl | ha
    · exact absurd rfl hne
    · cases ha

/-! #### the loops -/
noncomputable def lp1 (S : List (List Nat)) (h : Nat) : S43 := ⟨(h : Int), up ((List.range S.length).filter (lpb S h))⟩
noncomputable def hds (S : List (List Nat)) (i : Nat) : List Nat := (List.range i).filter fun h => decide (0 < (lats S h).length)
noncomputable def lps (S : List (List Nat)) : List S43 := (hds S S.length).map (lp1 S)
theorem hds_len {i : Nat} : (hds S i).length ≤ i := by
  have := List.length_filter_le (fun h => decide (0 < (lats S h).length)) (List.range i)
  rw [List.length_range] at this; exact this
theorem all_l1 (hD : Gd S 0 at_ par) (d : Nat) : ∀ i, i ≤ S.length → S.length - i = d →
    Ev (fun k => loop_All.l1 k (bks S) (dtl S 0) ((hds S i).map (lp1 S)) (S.length : Int) (i : Int) (up2 S) (up2 (pr S))) (lps S) := by
  have hG := hD.gr
  have hle := hG.le
  induction d with
  | zero =>
    intro i hi hd
    obtain rfl : i = S.length := by omega
    refine Ev.succ ?_; simp only [loop_All.l1]
    exact Ev.ifn (by omega) Ev.pure
  | succ d ih =>
    intro i hi hd
    have hn := ih (i + 1) (by omega) (by omega)
    have hl := hds_len (S := S) (i := i)
    have e : hds S (i + 1) = hds S i ++ (if 0 < (lats S i).length then [i] else []) := by
      unfold hds
      rw [List.range_succ, List.filter_append]
      by_cases e : 0 < (lats S i).length
      · rw [if_pos e, List.filter_cons_of_pos (by simpa using e)]; rfl
      · rw [if_neg e, List.filter_cons_of_neg (by simpa using e)]; rfl
    rw [e] at hn
    refine Ev.succ ?_; simp only [loop_All.l1]
    rw [from_bks hG, up_length, wrap_nat (by omega)]
    refine Ev.ifp (by omega) (Ev.ifp (by omega) ?_)
    by_cases e2 : 0 < (lats S i).length
    · rw [if_pos e2, List.map_append] at hn
      exact Ev.ifp (by omega) (Ev.bind (body_ok hD (by omega)) (Ev.ifp (by rw [List.length_map]; omega) hn))
    · rw [if_neg e2, List.append_nil] at hn
      exact Ev.ifn (by omega) hn
theorem bks_okb (hG : Gr S) : (bks S).all okb = true := by
  have hle := hG.le
  refine List.all_eq_true.mpr (fun x hx => ?_)
  obtain ⟨a, b, h1, rfl, h2⟩ := bkt_mem _ hx
  have h3 := (hG.row a h1).2 b h2.1
  simp only [okb, decide_eq_true_eq]
  omega
theorem all_ok (hG : Gr S) : Ev (fun k => loop_All.f k (up2 S) (up2 (pr S))) (lps S) := by
  have hle := hG.le
  obtain ⟨at_, par, hD⟩ := gd_ex hG hG.pos
  have hl := bkt_len hG S.length (Nat.le_refl _)
  unfold loop_All.f
  refine Ev.bind (tree_ok0 hG) (Ev.bind (backs_ok hG) (Ev.ifp ⟨bks_okb hG, ?_⟩ ?_))
  · show (bkt S S.length).length ≤ 4096; omega
  · rw [up2_length]
    exact all_l1 hD S.length 0 (Nat.zero_le _) rfl
end
theorem all_no_l1 (s p : List (List Int)) (hb : s.length ≤ big) (d : Nat) : ∀ i, i ≤ s.length → s.length - i = d → Ev (fun k => loop_All.l1 k [] [] [] (s.length : Int) (i : Int) s p) [] := by
  have hbb : big = 9223372036854775807 := rfl
  induction d with
  | zero =>
    intro i hi hd
    refine Ev.succ ?_; simp only [loop_All.l1]
    exact Ev.ifn (by omega) Ev.pure
  | succ d ih =>
    intro i hi hd
    refine Ev.succ ?_; simp only [loop_All.l1]
    rw [wrap_nat (by omega)]
    exact Ev.ifp (by omega) (Ev.ifp (by omega) (Ev.ifn (by simp [fromOf]) (ih (i + 1) (by omega) (by omega))))
theorem all_no {s p : List (List Int)} (hb : s.length ≤ big) (hr : ∀ l ∈ s, l.length ≤ big) (hm : Ev (fun k => graph_May.f k s p) false) : Ev (fun k => loop_All.f k s p) [] := by
  unfold loop_All.f
  exact Ev.bind (tree_no (order_no 0 hm)) (Ev.bind (backs_no hb hr hm) (Ev.ifp ⟨rfl, by simp⟩ (all_no_l1 s p hb s.length 0 (Nat.zero_le _) rfl)))

/-! #### how deep a block lies -/
theorem index_l0i (x : Int) (l : List Int) (hb : l.length ≤ big) (d : Nat) : ∀ i, i ≤ l.length → l.length - i = d → (∀ j, j < i → l.getD j 0 ≠ x) →
    ∃ r : Int, Ev (fun k => slices_Index_int_int.l0 k l x (l.length : Int) (i : Int)) r ∧ ((r = -1 ∧ x ∉ l) ∨ ∃ j : Nat, r = (j : Int) ∧ j < l.length ∧ l.getD j 0 = x ∧ ∀ q, q < j → l.getD q 0 ≠ x) := by
  have hbb : big = 9223372036854775807 := rfl
  induction d with
  | zero =>
    intro i hi hd hn
    refine ⟨-1, Ev.succ ?_, .inl ⟨rfl, fun hm => ?_⟩⟩
    · simp only [slices_Index_int_int.l0]
      exact Ev.ifn (by omega) Ev.pure
    · obtain ⟨j, hj, e⟩ := List.getElem_of_mem hm
      refine hn j (by omega) ?_
      rw [List.getD_eq_getElem?_getD, List.getElem?_eq_getElem hj]; exact e
  | succ d ih =>
    intro i hi hd hn
    have hrd : rd l (i : Int) = l.getD i 0 := by simp [rd]
    by_cases e : l.getD i 0 = x
    · refine ⟨(i : Int), Ev.succ ?_, .inr ⟨i, rfl, by omega, e, hn⟩⟩
      simp only [slices_Index_int_int.l0]
      rw [hrd]
      exact Ev.ifp (by omega) (Ev.ifp (by omega) (Ev.ifp (by omega) (Ev.ifp e.symm Ev.pure)))
    · obtain ⟨r, h1, h2⟩ := ih (i + 1) (by omega) (by omega) (fun j hj => by
        by_cases e2 : j = i
        · rw [e2]; exact e
        · exact hn j (by omega))
      refine ⟨r, Ev.succ ?_, h2⟩
      simp only [slices_Index_int_int.l0]
      rw [hrd, wrap_nat (by omega)]
      exact Ev.ifp (by omega) (Ev.ifp (by omega) (Ev.ifp (by omega) (Ev.ifn (fun e2 => e e2.symm) h1)))
theorem index_i (x : Int) (l : List Int) (hb : l.length ≤ big) :
    ∃ r : Int, Ev (fun k => slices_Index_int_int.f k l x) r ∧ ((r = -1 ∧ x ∉ l) ∨ ∃ j : Nat, r = (j : Int) ∧ j < l.length ∧ l.getD j 0 = x ∧ ∀ q, q < j → l.getD q 0 ≠ x) := by
  unfold slices_Index_int_int.f
  exact index_l0i x l hb l.length 0 (Nat.zero_le _) rfl (fun j hj => by omega)
theorem contains_i (l : List Int) (hb : l.length ≤ big) (x : Int) : Ev (fun k => slices_Contains_int_int.f k l x) (decide (x ∈ l)) := by
  obtain ⟨r, h1, h2⟩ := index_i x l hb
  unfold slices_Contains_int_int.f
  refine Ev.bind h1 (Ev.pure.of_eq ?_)
  rcases h2 with ⟨e, h3⟩ | ⟨j, e, h3, h4, _⟩
  · rw [e, decide_eq_false h3]; rfl
  · have hm : x ∈ l := by rw [← h4]; exact getD_mem h3
    rw [e, decide_eq_true hm]; exact decide_eq_true (by omega)
/-- How many of the loops have a block. -/
def lpdep (ls : List S43) (x : Int) : Nat := (ls.filter fun l => decide (x ∈ l.f1)).length
theorem ldepth_l0 (x : Int) (ls : List S43) (hb : ls.length ≤ 1000) (hr : ∀ l ∈ ls, l.f1.length ≤ big) (d : Nat) : ∀ i, i ≤ ls.length → ls.length - i = d →
    Ev (fun k => loop_Depth.l0 k x (lpdep (ls.take i) x : Int) ls (ls.length : Int) (i : Int)) (lpdep ls x : Int) := by
  induction d with
  | zero =>
    intro i hi hd
    obtain rfl : i = ls.length := by omega
    rw [List.take_length]
    refine Ev.succ ?_; simp only [loop_Depth.l0]
    exact Ev.ifn (by omega) Ev.pure
  | succ d ih =>
    intro i hi hd
    have hil : i < ls.length := by omega
    have hrd : rd_T43 ls (i : Int) = ls[i] := by simp [rd_T43, hil]
    have hn := ih (i + 1) (by omega) (by omega)
    have hle : lpdep (ls.take i) x ≤ i := by
      have h1 := List.length_filter_le (fun l : S43 => decide (x ∈ l.f1)) (ls.take i)
      have h2 := List.length_take_le i ls
      unfold lpdep; omega
    have e : lpdep (ls.take (i + 1)) x = lpdep (ls.take i) x + if x ∈ ls[i].f1 then 1 else 0 := by
      unfold lpdep
      rw [List.take_succ_eq_append_getElem hil, List.filter_append, List.length_append]
      by_cases h : x ∈ ls[i].f1
      · rw [List.filter_cons_of_pos (by simpa using h), if_pos h]; rfl
      · rw [List.filter_cons_of_neg (by simpa using h), if_neg h]; rfl
    rw [e] at hn
    refine Ev.succ ?_; simp only [loop_Depth.l0]
    rw [hrd, wrap_nat (by omega), wrap_nat (by omega)]
    refine Ev.ifp (by omega) (Ev.ifp (by omega) (Ev.ifp (by omega) (Ev.bind (contains_i _ (hr _ (List.getElem_mem hil)) x) ?_)))
    by_cases h : x ∈ ls[i].f1
    · rw [if_pos h] at hn; exact Ev.ifp (decide_eq_true h) hn
    · rw [if_neg h] at hn; exact Ev.ifn (by rw [decide_eq_false h]; decide) hn
theorem lps_len {S : List (List Nat)} : (lps S).length ≤ S.length := by unfold lps; rw [List.length_map]; exact hds_len
theorem lps_mem {S : List (List Nat)} {l : S43} (h : l ∈ lps S) : ∃ h : Nat, h < S.length ∧ 0 < (lats S h).length ∧ l = lp1 S h := by
  unfold lps at h
  obtain ⟨q, hq, rfl⟩ := List.mem_map.mp h
  obtain ⟨h1, h2⟩ := List.mem_filter.mp hq
  exact ⟨q, List.mem_range.mp h1, by simpa using h2, rfl⟩
theorem lp1_len {S : List (List Nat)} (h : Nat) : (lp1 S h).f1.length ≤ S.length := by
  show (up ((List.range S.length).filter (lpb S h))).length ≤ S.length
  have := List.length_filter_le (lpb S h) (List.range S.length)
  rw [List.length_range] at this; rw [up_length]; exact this
theorem ldepth_ok {S : List (List Nat)} (hG : Gr S) (x : Int) : Ev (fun k => loop_Depth.f k (up2 S) (up2 (pr S)) x) (lpdep (lps S) x : Int) := by
  have hle := hG.le
  have hl := lps_len (S := S)
  unfold loop_Depth.f
  refine Ev.bind (all_ok hG) ?_
  have hbb : big = 9223372036854775807 := rfl
  exact ldepth_l0 x (lps S) (by omega) (fun l h => by obtain ⟨q, _, _, rfl⟩ := lps_mem h; have := lp1_len (S := S) q; omega) _ 0 (Nat.zero_le _) rfl
theorem ldepth_no {s p : List (List Int)} (hb : s.length ≤ big) (hr : ∀ l ∈ s, l.length ≤ big) (hm : Ev (fun k => graph_May.f k s p) false) (x : Int) : Ev (fun k => loop_Depth.f k s p x) 0 := by
  unfold loop_Depth.f
  exact Ev.bind (all_no hb hr hm) (ldepth_l0 x [] (by simp) (by simp) 0 0 (Nat.zero_le _) rfl)

theorem getD_up (l : List Nat) (j : Nat) : (up l).getD j 0 = ((l.getD j 0 : Nat) : Int) := by
  have := rd_up l j
  simpa [rd] using this
section
variable {S : List (List Nat)} {at_ par : Nat → Nat}
theorem index_at (hG : Gr S) (ha : Places (dfs S 0) at_) {y : Nat} (hy : y ∈ dfs S 0) : Ev (fun k => slices_Index_int_int.f k (up (dfs S 0)) (y : Int)) (at_ y : Int) := by
  have hbb : big = 9223372036854775807 := rfl
  have hle := hG.le
  have hl := dfs_len hG (r := 0) hG.pos
  obtain ⟨r, h1, h2⟩ := index_i (y : Int) (up (dfs S 0)) (by rw [up_length]; omega)
  refine h1.of_eq ?_
  rcases h2 with ⟨_, h3⟩ | ⟨j, e, h3, h4, _⟩
  · exact absurd (List.mem_map.mpr ⟨y, hy, rfl⟩) h3
  · rw [up_length] at h3
    rw [getD_up] at h4
    rw [e, ← ha j h3, show (dfs S 0).getD j 0 = y by omega]
/-- From a place of the order on each block stands ahead of those at which it goes on. -/
def Fq (S : List (List Nat)) (at_ : Nat → Nat) (i : Nat) : Prop := ∀ q, i ≤ q → q < (dfs S 0).length → ∀ y ∈ S.getD ((dfs S 0).getD q 0) [], q < at_ y
open Classical in
theorem for_l1 (hG : Gr S) (ha : Places (dfs S 0) at_) {i : Nat} (hi : i < (dfs S 0).length)
    (H : Ev (fun k => loop_forward.l0 k (up (dfs S 0)) (up (dfs S 0)) ((dfs S 0).length : Int) ((i + 1 : Nat) : Int) (up2 S) (up2 (pr S))) (decide (Fq S at_ (i + 1)))) (d : Nat) :
    ∀ m, m ≤ (S.getD ((dfs S 0).getD i 0) []).length → (S.getD ((dfs S 0).getD i 0) []).length - m = d →
    Ev (fun k => loop_forward.l1 k (up (dfs S 0)) (i : Int) (up (dfs S 0)) ((dfs S 0).length : Int) (i : Int) (up (S.getD ((dfs S 0).getD i 0) [])) ((S.getD ((dfs S 0).getD i 0) []).length : Int) (m : Int) (up2 S) (up2 (pr S)))
      (decide ((∀ y ∈ (S.getD ((dfs S 0).getD i 0) []).drop m, i < at_ y) ∧ Fq S at_ (i + 1))) := by
  have hle := hG.le
  have hl := dfs_len hG (r := 0) hG.pos
  have hx := dfs_lt hG (r := 0) hG.pos _ (getD_mem (d := 0) hi)
  have hxr := (dfs_mem hG hG.pos _).mp (getD_mem (d := 0) hi)
  generalize hxe : (dfs S 0).getD i 0 = x at hx hxr
  have hrl := gr_len hG hx
  induction d with
  | zero =>
    intro m hm hd
    obtain rfl : m = (S.getD x []).length := by omega
    refine Ev.succ ?_; simp only [loop_forward.l1]
    rw [wrap_nat (i := i) (by omega)]
    refine Ev.ifn (by omega) (H.of_eq (decide_eq_decide.mpr ⟨fun h => ⟨fun y hy => ?_, h⟩, fun h => h.2⟩))
    rw [List.drop_length] at hy; cases hy
  | succ d ih =>
    intro m hm hd
    have hml : m < (S.getD x []).length := by omega
    have hn := ih (m + 1) (by omega) (by omega)
    have hy := getD_mem (d := 0) hml
    have hyd : (S.getD x []).getD m 0 ∈ dfs S 0 := (dfs_mem hG hG.pos _).mpr (.step hxr hy (by omega))
    refine Ev.succ ?_; simp only [loop_forward.l1]
    rw [rd_up, wrap_nat (i := m) (by omega), up_length, drop_getD _ m 0 hml]
    refine Ev.ifp (by omega) (Ev.ifp (by omega) (Ev.ifp (by omega) (Ev.bind (index_at hG ha hyd) ?_)))
    by_cases e : at_ ((S.getD x []).getD m 0) ≤ i
    · refine Ev.ifp (by omega) (Ev.pure.of_eq (decide_eq_false (fun h => ?_)).symm)
      have := h.1 _ (List.mem_cons_self ..); omega
    · refine Ev.ifn (by omega) (hn.of_eq (decide_eq_decide.mpr ⟨fun h => ⟨fun y hy => ?_, h.2⟩, fun h => ⟨fun y hy => h.1 y (List.mem_cons_of_mem _ hy), h.2⟩⟩))
      rcases List.mem_cons.mp hy with e2 | e2
      · rw [e2]; omega
      · exact h.1 y e2
open Classical in
theorem for_l0 (hG : Gr S) (ha : Places (dfs S 0) at_) (d : Nat) : ∀ i, i ≤ (dfs S 0).length → (dfs S 0).length - i = d →
    Ev (fun k => loop_forward.l0 k (up (dfs S 0)) (up (dfs S 0)) ((dfs S 0).length : Int) (i : Int) (up2 S) (up2 (pr S))) (decide (Fq S at_ i)) := by
  have hle := hG.le
  have hl := dfs_len hG (r := 0) hG.pos
  induction d with
  | zero =>
    intro i hi hd
    obtain rfl : i = (dfs S 0).length := by omega
    obtain ⟨t, ht⟩ := dfs_head hG 0
    refine Ev.succ ?_; simp only [loop_forward.l0]
    refine Ev.ifn (by omega) (Ev.pure.of_eq ?_)
    rw [up_length, decide_eq_true (by rw [ht]; simp), decide_eq_true]
    intro q h1 h2; omega
  | succ d ih =>
    intro i hi hd
    have hil : i < (dfs S 0).length := by omega
    have hx := dfs_lt hG (r := 0) hG.pos _ (getD_mem (d := 0) hil)
    have h := for_l1 hG ha hil (ih (i + 1) (by omega) (by omega)) _ 0 (Nat.zero_le _) rfl
    rw [List.drop_zero] at h
    refine Ev.succ ?_; simp only [loop_forward.l0]
    rw [rd_up, rdL_up, up_length, up_length]
    refine Ev.ifp (by omega) (Ev.ifp (by omega) (Ev.ifp (by omega) (Ev.ifp (by omega) (Ev.ifp (by rw [up2_length]; omega) (h.of_eq (decide_eq_decide.mpr ?_))))))
    constructor
    · rintro ⟨h1, h2⟩ q hq1 hq2 y hy
      by_cases e : q = i
      · subst e; exact h1 y hy
      · exact h2 q (by omega) hq2 y hy
    · intro h1
      exact ⟨fun y hy => h1 i (Nat.le_refl _) hil y hy, fun q hq1 hq2 y hy => h1 q (by omega) hq2 y hy⟩
end
open Classical in
noncomputable def acb (S : List (List Nat)) : Bool := decide (Ac S 0)
theorem acb_true {S : List (List Nat)} : acb S = true ↔ Ac S 0 := by simp [acb]
theorem acb_false {S : List (List Nat)} : acb S = false ↔ ¬ Ac S 0 := by simp [acb]
theorem for_ok {S : List (List Nat)} (hG : Gr S) : Ev (fun k => loop_forward.f k (up2 S) (up2 (pr S))) (acb S) := by
  obtain ⟨at_, ha⟩ := places_ex hG hG.pos
  have ho := order_ok hG (r := 0) hG.pos
  unfold loop_forward.f
  refine Ev.bind ho ?_
  rw [up_length]
  refine (for_l0 hG ha (dfs S 0).length 0 (Nat.zero_le _) rfl).of_eq (decide_eq_decide.mpr ?_)
  rw [ac_fw hG hG.pos ha]
  constructor
  · intro h x hx y hy
    obtain ⟨j, hj, e⟩ := mem_at ((dfs_mem hG hG.pos x).mpr hx)
    have := h j (Nat.zero_le _) hj y (by rw [e]; exact hy)
    rw [← e, ha j hj]; exact this
  · intro h q _ hq y hy
    have := h _ ((dfs_mem hG hG.pos _).mp (getD_mem (d := 0) hq)) y hy
    rw [ha q hq] at this; exact this
theorem for_no {s p : List (List Int)} (hm : Ev (fun k => graph_May.f k s p) false) : Ev (fun k => loop_forward.f k s p) false := by
  unfold loop_forward.f
  refine Ev.bind (order_no 0 hm) (Ev.succ ?_)
  simp only [loop_forward.l0]
  exact Ev.ifn (by simp) Ev.pure
theorem forward_ok {S : List (List Nat)} (hG : Gr S) : Ev (fun k => loop_Forward.f k (up2 S) (up2 (pr S))) (acb S) := by
  unfold loop_Forward.f; exact Ev.bind (for_ok hG) Ev.pure
theorem forward_no {s p : List (List Int)} (hm : Ev (fun k => graph_May.f k s p) false) : Ev (fun k => loop_Forward.f k s p) false := by
  unfold loop_Forward.f; exact Ev.bind (for_no hm) Ev.pure

/-! #### without the ways back -/
noncomputable def nb (S : List (List Nat)) : List (List Nat) := (List.range S.length).map fun a => (S.getD a []).filter fun b => !dmb S b a
@[simp] theorem nb_length (S : List (List Nat)) : (nb S).length = S.length := by simp [nb]
theorem nb_get {S : List (List Nat)} {a : Nat} (h : a < S.length) : (nb S).getD a [] = (S.getD a []).filter fun b => !dmb S b a := getD_map_range _ _ _ _ h
theorem nb_mem {S : List (List Nat)} {a b : Nat} : b ∈ (nb S).getD a [] ↔ b ∈ S.getD a [] ∧ ¬ Dm S 0 b a := by
  constructor
  · intro h
    have ha := getD_lt h
    rw [nb_length] at ha
    rw [nb_get ha] at h
    obtain ⟨h1, h2⟩ := List.mem_filter.mp h
    exact ⟨h1, fun hd => by rw [dmb_true.mpr hd] at h2; cases h2⟩
  · rintro ⟨h1, h2⟩
    rw [nb_get (getD_lt h1)]
    refine List.mem_filter.mpr ⟨h1, ?_⟩
    cases e : dmb S b a with
    | true => exact absurd (dmb_true.mp e) h2
    | false => rfl
theorem gr_nb {S : List (List Nat)} (hG : Gr S) : Gr (nb S) := by
  refine ⟨by rw [nb_length]; exact hG.pos, by rw [nb_length]; exact hG.le, fun i hi => ?_⟩
  rw [nb_length] at hi ⊢
  rw [nb_get hi]
  exact ⟨(hG.row i hi).1.filter _, fun y hy => (hG.row i hi).2 y (List.mem_filter.mp hy).1⟩
theorem index_2 {ls : List S48} (hb : ls.length ≤ big) (x y : Int) (d : Nat) : ∀ i, i ≤ ls.length → ls.length - i = d → (∀ j, j < i → ls[j]? ≠ some ⟨x, y⟩) →
    ∃ r : Int, Ev (fun k => slices_Index_2_int_2_int.l0 k ls (ls.length : Int) (i : Int) x y) r ∧ ((r = -1 ∧ (⟨x, y⟩ : S48) ∉ ls) ∨ (0 ≤ r ∧ (⟨x, y⟩ : S48) ∈ ls)) := by
  have hbb : big = 9223372036854775807 := rfl
  induction d with
  | zero =>
    intro i hi hd hn
    refine ⟨-1, Ev.succ ?_, .inl ⟨rfl, fun hm => ?_⟩⟩
    · simp only [slices_Index_2_int_2_int.l0]
      exact Ev.ifn (by omega) Ev.pure
    · obtain ⟨j, hj, e⟩ := List.getElem_of_mem hm
      exact hn j (by omega) (by rw [List.getElem?_eq_getElem hj, e])
  | succ d ih =>
    intro i hi hd hn
    have hil : i < ls.length := by omega
    have hrd : rd_T48 ls (i : Int) = ls[i] := by simp [rd_T48, hil]
    by_cases e : ls[i] = ⟨x, y⟩
    · refine ⟨(i : Int), Ev.succ ?_, .inr ⟨by omega, by rw [← e]; exact List.getElem_mem hil⟩⟩
      simp only [slices_Index_2_int_2_int.l0]
      rw [hrd, e]
      exact Ev.ifp (by omega) (Ev.ifp (by omega) (Ev.ifp (by omega) (Ev.ifp (by simp) Ev.pure)))
    · obtain ⟨r, h1, h2⟩ := ih (i + 1) (by omega) (by omega) (fun j hj => by
        by_cases e2 : j = i
        · subst e2; rw [List.getElem?_eq_getElem hil]; exact fun h => e (by injection h)
        · exact hn j (by omega))
      refine ⟨r, Ev.succ ?_, h2⟩
      simp only [slices_Index_2_int_2_int.l0]
      rw [hrd, wrap_nat (by omega)]
      refine Ev.ifp (by omega) (Ev.ifp (by omega) (Ev.ifp (by omega) (Ev.ifn (fun hc => e ?_) h1)))
      rw [Bool.and_eq_true, beq_iff_eq, beq_iff_eq] at hc
      obtain ⟨c1, c2⟩ := hc
      cases hq : ls[i] with
      | mk q1 q2 => rw [hq] at c1 c2; rw [c1, c2]
theorem contains_2 {ls : List S48} (hb : ls.length ≤ big) (x y : Int) {v : Bool} (h : v = true ↔ (⟨x, y⟩ : S48) ∈ ls) : Ev (fun k => slices_Contains_2_int_2_int.f k ls x y) v := by
  obtain ⟨r, h1, h2⟩ := index_2 hb x y ls.length 0 (Nat.zero_le _) rfl (fun j hj => by omega)
  unfold slices_Contains_2_int_2_int.f
  refine Ev.bind (show Ev (fun k => slices_Index_2_int_2_int.f k ls x y) r from by unfold slices_Index_2_int_2_int.f; exact h1) (Ev.pure.of_eq ?_)
  rcases h2 with ⟨e, h3⟩ | ⟨e, h3⟩
  · cases v with
    | true => exact absurd (h.mp rfl) h3
    | false => rw [e]; rfl
  · rw [h.mpr h3]; exact decide_eq_true (by omega)
/-- The rows told so far. -/
noncomputable def nbI (S : List (List Nat)) (i m : Nat) : List (List Nat) := (List.range S.length).map fun j => if j < i then (S.getD j []).filter (fun b => !dmb S b j) else if j = i then ((S.getD j []).take m).filter (fun b => !dmb S b j) else []
theorem nbI_next {S : List (List Nat)} {i : Nat} : nbI S i (S.getD i []).length = nbI S (i + 1) 0 := by
  refine List.map_congr_left (fun j _ => ?_)
  by_cases e1 : j < i
  · rw [if_pos e1, if_pos (by omega)]
  · by_cases e2 : j = i
    · subst e2; rw [if_neg e1, if_pos rfl, if_pos (by omega), List.take_length]
    · rw [if_neg e1, if_neg e2, if_neg (by omega)]
      split
      · rw [List.take_zero]; rfl
      · rfl
theorem red_l1 {S : List (List Nat)} (hG : Gr S) {i : Nat} (hi : i < S.length) (v : Bool) (H : Ev (fun k => loop_Reducible.l0 k (bks S) (up2 (nbI S (i + 1) 0)) (up2 S) (S.length : Int) ((i + 1 : Nat) : Int)) v) (d : Nat) : ∀ m, m ≤ (S.getD i []).length → (S.getD i []).length - m = d →
    Ev (fun k => loop_Reducible.l1 k (bks S) (up2 (nbI S i m)) (i : Int) (up2 S) (S.length : Int) (i : Int) (up (S.getD i [])) ((S.getD i []).length : Int) (m : Int)) v := by
  have hle := hG.le
  have hrl := gr_len hG hi
  have hbb : big = 9223372036854775807 := rfl
  have hbl : (bks S).length ≤ 64 * S.length := bkt_len hG S.length (Nat.le_refl _)
  induction d with
  | zero =>
    intro m hm hd
    obtain rfl : m = (S.getD i []).length := by omega
    refine Ev.succ ?_; simp only [loop_Reducible.l1]
    rw [wrap_nat (i := i) (by omega), nbI_next]
    exact Ev.ifn (by omega) H
  | succ d ih =>
    intro m hm hd
    have hml : m < (S.getD i []).length := by omega
    have hn := ih (m + 1) (by omega) (by omega)
    have hy := getD_mem (d := 0) hml
    have hc : dmb S ((S.getD i []).getD m 0) i = true ↔ (⟨(i : Int), (((S.getD i []).getD m 0 : Nat) : Int)⟩ : S48) ∈ bks S := by
      rw [bks_mem, dmb_true]; exact ⟨fun h => ⟨hy, h⟩, fun h => h.2⟩
    have hrow : (nbI S i m).getD i [] = ((S.getD i []).take m).filter (fun b => !dmb S b i) := by
      unfold nbI
      rw [getD_map_range _ _ _ _ hi, if_neg (by omega), if_pos rfl]
    have hrl2 : (((S.getD i []).take m).filter (fun b => !dmb S b i)).length ≤ 64 := by
      have h1 := List.length_filter_le (fun b => !dmb S b i) ((S.getD i []).take m)
      have h2 : ((S.getD i []).take m).length ≤ (S.getD i []).length := by rw [List.length_take]; omega
      omega
    have hset : ∀ l : List Nat, (up2 (nbI S i m)).set i (up l) = up2 ((List.range S.length).map fun j => if j = i then l else if j < i then (S.getD j []).filter (fun b => !dmb S b j) else []) := by
      intro l
      unfold up2 nbI
      rw [← List.map_set]
      congr 1
      refine set_map_range _ _ _ _ _ (by rw [if_pos rfl]) (fun j hj => ?_)
      rw [if_neg hj, if_neg hj]
    have hnx : ∀ l : List Nat, l = ((S.getD i []).take (m + 1)).filter (fun b => !dmb S b i) → ((List.range S.length).map fun j => if j = i then l else if j < i then (S.getD j []).filter (fun b => !dmb S b j) else []) = nbI S i (m + 1) := by
      intro l hl
      refine List.map_congr_left (fun j _ => ?_)
      by_cases e1 : j = i
      · subst e1; rw [if_pos rfl, if_neg (by omega), if_pos rfl, hl]
      · rw [if_neg e1, if_neg e1]
    refine Ev.succ ?_; simp only [loop_Reducible.l1]
    rw [rd_up, rdL_up, hrow, wrap_nat (i := m) (by omega), up_length, up_length]
    refine Ev.ifp (by omega) (Ev.ifp (by omega) (Ev.ifp (by omega) (Ev.bind (contains_2 (by omega) _ _ hc) ?_)))
    cases e : dmb S ((S.getD i []).getD m 0) i with
    | true =>
      have e2 : nbI S i (m + 1) = nbI S i m := by
        refine List.map_congr_left (fun j _ => ?_)
        by_cases e1 : j < i
        · rw [if_pos e1, if_pos e1]
        · rw [if_neg e1, if_neg e1]
          by_cases e3 : j = i
          · subst e3
            rw [if_pos rfl, if_pos rfl, take_getD _ m 0 hml, List.filter_append, List.filter_cons_of_neg (p := fun b => !dmb S b j) (by show ¬ (!dmb S _ j) = true; rw [e]; decide), List.filter_nil, List.append_nil]
          · rw [if_neg e3, if_neg e3]
      rw [e2] at hn
      exact Ev.ifp rfl hn
    | false =>
      refine Ev.ifn (by decide) (Ev.ifp (by omega) (Ev.ifp (by rw [up2_length]; simp [nbI]; omega) (Ev.ifp (by omega) ?_)))
      rw [Int.toNat_natCast, ← up_snoc, hset, hnx]
      · exact hn
      · rw [take_getD _ m 0 hml, List.filter_append, List.filter_cons_of_pos (p := fun b => !dmb S b i) (by show (!dmb S _ i) = true; rw [e]; rfl), List.filter_nil]
theorem red_l0 {S : List (List Nat)} (hG : Gr S) (d : Nat) : ∀ i, i ≤ S.length → S.length - i = d → Ev (fun k => loop_Reducible.l0 k (bks S) (up2 (nbI S i 0)) (up2 S) (S.length : Int) (i : Int)) (acb (nb S)) := by
  have hle := hG.le
  induction d with
  | zero =>
    intro i hi hd
    obtain rfl : i = S.length := by omega
    have e : nbI S S.length 0 = nb S := by
      refine List.map_congr_left (fun j hj => ?_)
      rw [if_pos (List.mem_range.mp hj)]
    rw [e]
    refine Ev.succ ?_; simp only [loop_Reducible.l0]
    exact Ev.ifn (by omega) (Ev.bind (make_ok (gr_nb hG)) (Ev.bind (for_ok (gr_nb hG)) Ev.pure))
  | succ d ih =>
    intro i hi hd
    have h := red_l1 hG (i := i) (by omega) _ (ih (i + 1) (by omega) (by omega)) _ 0 (Nat.zero_le _) rfl
    refine Ev.succ ?_; simp only [loop_Reducible.l0]
    rw [rdL_up, up_length]
    exact Ev.ifp (by omega) (Ev.ifp (by omega) (Ev.ifp (by rw [up2_length]; omega) h))
theorem red_ok {S : List (List Nat)} (hG : Gr S) : Ev (fun k => loop_Reducible.f k (up2 S) (up2 (pr S))) (acb (nb S)) := by
  have hle := hG.le
  have h := red_l0 hG S.length 0 (Nat.zero_le _) rfl
  have e : up2 (nbI S 0 0) = List.replicate S.length [] := by
    apply List.ext_getElem
    · simp [nbI]
    · intro j h1 h2; simp [nbI, up2, up]
  rw [e] at h
  unfold loop_Reducible.f
  refine Ev.bind (may_ok hG _) (Ev.ifp (by simp) (Ev.bind (backs_ok hG) ?_))
  rw [up2_length, Int.toNat_natCast]
  exact Ev.ifp (by omega) (Ev.ifp (by omega) h)
theorem red_no {s p : List (List Int)} (hm : Ev (fun k => graph_May.f k s p) false) : Ev (fun k => loop_Reducible.f k s p) false := by
  unfold loop_Reducible.f
  exact Ev.bind hm (Ev.ifn (by decide) Ev.pure)
theorem may_nil : Ev (fun k => graph_May.f k [] []) false := may_bad (s := []) (by simp) (by simp) (by decide) []

theorem has_l0 (x : Int) (d : Nat) : ∀ (i : Nat) (a : List Int), a.length ≤ big → i ≤ a.length → a.length - i = d → Ev (fun k => lockstepref06_Has.l0 k a x (i : Int)) (decide (x ∈ a.drop i)) := by
  induction d with
  | zero =>
    intro i a hb hi hd
    refine Ev.succ ?_; simp only [lockstepref06_Has.l0]
    refine Ev.ifn (by omega) ?_
    rw [List.drop_of_length_le (by omega)]
    exact Ev.pure.of_eq (by simp)
  | succ d ih =>
    intro i a hb hi hd
    have hbb : big = 9223372036854775807 := rfl
    refine Ev.succ ?_; simp only [lockstepref06_Has.l0]
    refine Ev.ifp (by omega) (Ev.ifp (by omega) ?_)
    rw [show rd a (i : Int) = a.getD i 0 by simp [rd]]
    rw [drop_getD a i 0 (by omega)]
    by_cases h : a.getD i 0 = x
    · exact Ev.ifp h (Ev.pure.of_eq (by rw [h]; simp))
    · refine Ev.ifn h ?_
      rw [wrap_nat (by omega)]
      refine (ih (i + 1) a hb (by omega) (by omega)).of_eq ?_
      by_cases hm : x ∈ a.drop (i + 1)
      · rw [decide_eq_true hm, decide_eq_true (List.mem_cons_of_mem _ hm)]
      · rw [decide_eq_false hm, decide_eq_false (fun hc => by
          rcases List.mem_cons.mp hc with e | e
          · exact h e.symm
          · exact hm e)]
theorem has_ok (a : List Int) (x : Int) (hb : a.length ≤ big) : Ev (fun k => lockstepref06_Has.f k a x) (decide (x ∈ a)) := by
  unfold lockstepref06_Has.f
  simpa using has_l0 x a.length 0 a hb (by omega) (by omega)
theorem has_up (l : List Nat) (x : Nat) (hb : l.length ≤ big) : Ev (fun k => lockstepref06_Has.f k (up l) (x : Int)) (decide (x ∈ l)) := by
  refine (has_ok (up l) x (by rw [up_length]; exact hb)).of_eq ?_
  have e : (x : Int) ∈ up l ↔ x ∈ l := by
    simp only [up, List.mem_map]
    constructor
    · rintro ⟨y, hy, e⟩; rw [show x = y by omega]; exact hy
    · intro h; exact ⟨x, h, rfl⟩
  by_cases h : x ∈ l
  · rw [decide_eq_true h, decide_eq_true (e.mpr h)]
  · rw [decide_eq_false h, decide_eq_false (fun hc => h (e.mp hc))]

theorem rover_ok {S : List (List Nat)} (h : Gr S) (P : List (List Int)) {r a b : Nat} (hr : r < S.length) (hb : b < S.length) {v : Bool} (hv : v = true ↔ Dm S r a b) : Ev (fun k => lockstepref07_Over.f k (up2 S) P (r : Int) (a : Int) (b : Int)) v := by
  unfold lockstepref07_Over.f
  refine Ev.bind (reach_ok h P (-1) r hr) (Ev.ifp (by omega) (Ev.ifp (by rw [rbn_length]; omega) ?_))
  rw [rd_rbn _ _ hb]
  by_cases h1 : rchb S (-1) r b = true
  · refine Ev.ifp h1 (Ev.bind (reach_ok h P (a : Int) r hr) (Ev.ifp (by rw [rbn_length]; omega) (Ev.pure.of_eq ?_)))
    rw [rd_rbn _ _ hb]
    have h2 := rchb_true.mp h1
    cases h3 : rchb S (a : Int) r b with
    | true =>
      cases v with
      | false => rfl
      | true => exact absurd (rchb_true.mp h3) (hv.mp rfl).2
    | false =>
      exact (hv.mpr ⟨h2, fun h4 => by rw [rchb_true.mpr h4] at h3; cases h3⟩).symm
  · refine Ev.ifn h1 (Ev.pure.of_eq ?_)
    cases v with
    | false => rfl
    | true => exact absurd (rchb_true.mpr (hv.mp rfl).1) h1
/-- How many of a list's are in another one. -/
def comm (a b : List Int) : Nat := (a.filter fun x => decide (x ∈ b)).length
theorem comm_le (a b : List Int) : comm a b ≤ a.length := List.length_filter_le _ _
theorem heads_l3 (s p : List (List Int)) {ls : List S43} (hls : ls.length ≤ 64) {i j : Nat} (hi : i < ls.length) (hj : j < ls.length) (hbi : ls[i].f1.length ≤ 64) (hbj : ls[j].f1.length ≤ 64)
    (hc : comm ls[i].f1 ls[j].f1 = 0 ∨ comm ls[i].f1 ls[j].f1 = ls[i].f1.length ∨ comm ls[i].f1 ls[j].f1 = ls[j].f1.length)
    (H : Ev (fun k => locksteplaw10_LoopHeads.l2 k ls (i : Int) ((j + 1 : Nat) : Int) s p) true) (d : Nat) : ∀ m c, m ≤ ls[i].f1.length → ls[i].f1.length - m = d → c + comm (ls[i].f1.drop m) ls[j].f1 = comm ls[i].f1 ls[j].f1 →
    Ev (fun k => locksteplaw10_LoopHeads.l3 k ls (i : Int) (j : Int) (c : Int) (m : Int) s p) true := by
  have hr1 : rd_T43 ls (i : Int) = ls[i] := by simp [rd_T43, hi]
  have hr2 : rd_T43 ls (j : Int) = ls[j] := by simp [rd_T43, hj]
  have hbb : big = 9223372036854775807 := rfl
  have hcl := comm_le ls[i].f1 ls[j].f1
  induction d with
  | zero =>
    intro m c hm hd he
    rw [List.drop_of_length_le (by omega)] at he
    have he : c = comm ls[i].f1 ls[j].f1 := he
    refine Ev.succ ?_; simp only [locksteplaw10_LoopHeads.l3]
    rw [hr1, hr2, wrap_nat (i := j) (by omega)]
    refine Ev.ifp (by omega) (Ev.ifp (by omega) (Ev.ifn (by omega) ?_))
    by_cases h1 : (c : Int) = 0
    · exact Ev.ifp h1 H
    · refine Ev.ifn h1 ?_
      by_cases h2 : (c : Int) = (ls[i].f1.length : Int)
      · exact Ev.ifp h2 H
      · exact Ev.ifn h2 (Ev.ifp (by omega) (Ev.ifp (by omega) (Ev.ifp (by omega) H)))
  | succ d ih =>
    intro m c hm hd he
    have hml : m < ls[i].f1.length := by omega
    rw [drop_getD _ m 0 hml] at he
    refine Ev.succ ?_; simp only [locksteplaw10_LoopHeads.l3]
    rw [hr1, hr2, wrap_nat (i := m) (by omega), wrap_nat (i := c) (by omega)]
    refine Ev.ifp (by omega) (Ev.ifp (by omega) (Ev.ifp (by omega) (Ev.ifp (by omega) (Ev.ifp (by omega) (Ev.ifp (by omega) ?_)))))
    rw [show rd ls[i].f1 (m : Int) = ls[i].f1.getD m 0 by simp [rd]]
    refine Ev.bind (has_ok _ _ (by omega)) ?_
    by_cases h : ls[i].f1.getD m 0 ∈ ls[j].f1
    · refine Ev.ifp (decide_eq_true h) (ih (m + 1) (c + 1) (by omega) (by omega) ?_)
      unfold comm at he ⊢
      rw [List.filter_cons_of_pos (by simpa using h), List.length_cons] at he
      omega
    · refine Ev.ifn (by rw [decide_eq_false h]; decide) (ih (m + 1) c (by omega) (by omega) ?_)
      unfold comm at he ⊢
      rw [List.filter_cons_of_neg (by simpa using h)] at he
      omega
section
variable {S : List (List Nat)}
theorem mem_body {h x : Nat} : (x : Int) ∈ (lp1 S h).f1 ↔ x < S.length ∧ Lp S h x := by
  show (x : Int) ∈ up ((List.range S.length).filter (lpb S h)) ↔ _
  simp only [up, List.mem_map, List.mem_filter, List.mem_range, lpb_true]
  constructor
  · rintro ⟨y, hy, e⟩; rw [show x = y by omega]; exact hy
  · intro h; exact ⟨x, h, rfl⟩
theorem head_rch {h : Nat} (hl : 0 < (lats S h).length) : Rch S (-1) 0 h := by
  obtain ⟨a, ha⟩ := List.exists_mem_of_length_pos hl
  exact dm_rch (mem_lats.mp ha).2
theorem comm_eq (h k : Nat) : comm (lp1 S h).f1 (lp1 S k).f1 = ((List.range S.length).filter fun x => lpb S h x && lpb S k x).length := by
  show ((up ((List.range S.length).filter (lpb S h))).filter fun x => decide (x ∈ (lp1 S k).f1)).length = _
  unfold up
  rw [List.filter_map, List.length_map, List.filter_filter]
  congr 1
  refine List.filter_congr (fun x hx => ?_)
  show (decide ((x : Int) ∈ (lp1 S k).f1) && lpb S h x) = (lpb S h x && lpb S k x)
  rw [Bool.and_comm]
  congr 1
  have hx := List.mem_range.mp hx
  cases e : lpb S k x with
  | true => exact decide_eq_true (mem_body.mpr ⟨hx, lpb_true.mp e⟩)
  | false => exact decide_eq_false (fun hc => by rw [lpb_true.mpr (mem_body.mp hc).2] at e; cases e)
theorem comm_nest (hG : Gr S) {h k : Nat} (hh : Rch S (-1) 0 h) (hk : Rch S (-1) 0 k) :
    comm (lp1 S h).f1 (lp1 S k).f1 = 0 ∨ comm (lp1 S h).f1 (lp1 S k).f1 = (lp1 S h).f1.length ∨ comm (lp1 S h).f1 (lp1 S k).f1 = (lp1 S k).f1.length := by
  obtain ⟨at_, par, hD⟩ := gd_ex hG hG.pos
  have hb : ∀ q, (lp1 S q).f1.length = ((List.range S.length).filter (lpb S q)).length := fun q => up_length _
  rw [comm_eq, hb, hb]
  by_cases hx : ∃ x, Lp S h x ∧ Lp S k x
  · obtain ⟨x, h1, h2⟩ := hx
    rcases lp_nest hD.pl hh hk h1 h2 with h3 | h3
    · refine .inr (.inr ?_)
      congr 1
      refine List.filter_congr (fun y _ => ?_)
      cases e : lpb S k y with
      | true => rw [lpb_true.mpr (h3 y (lpb_true.mp e))]; rfl
      | false => rw [Bool.and_false]
    · refine .inr (.inl ?_)
      congr 1
      refine List.filter_congr (fun y _ => ?_)
      cases e : lpb S h y with
      | true => rw [lpb_true.mpr (h3 y (lpb_true.mp e))]; rfl
      | false => rfl
  · left
    rw [List.length_eq_zero_iff, List.filter_eq_nil_iff]
    intro x _ hc
    rw [Bool.and_eq_true, lpb_true, lpb_true] at hc
    exact hx ⟨x, hc⟩
theorem lps_at {i : Nat} (hi : i < (lps S).length) : ∃ h : Nat, h < S.length ∧ Rch S (-1) 0 h ∧ (lps S)[i] = lp1 S h := by
  obtain ⟨q, h1, h2, h3⟩ := lps_mem (List.getElem_mem hi : (lps S)[i] ∈ lps S)
  exact ⟨q, h1, head_rch h2, h3⟩
theorem heads_l2 (hG : Gr S) {i : Nat} (hi : i < (lps S).length) (H : Ev (fun k => locksteplaw10_LoopHeads.l0 k (lps S) ((i + 1 : Nat) : Int) (up2 S) (up2 (pr S))) true) (d : Nat) : ∀ j, j ≤ i → i - j = d →
    Ev (fun k => locksteplaw10_LoopHeads.l2 k (lps S) (i : Int) (j : Int) (up2 S) (up2 (pr S))) true := by
  have hle := hG.le
  have hll := lps_len (S := S)
  have hend : ∀ j : Nat, Ev (fun k => locksteplaw10_LoopHeads.j4 k (lps S) (i : Int) (j : Int) false (up2 S) (up2 (pr S))) true := by
    intro j
    refine Ev.succ ?_; simp only [locksteplaw10_LoopHeads.j4]
    rw [wrap_nat (by omega)]
    exact Ev.ifn (by decide) H
  induction d with
  | zero =>
    intro j hj hd
    refine Ev.succ ?_; simp only [locksteplaw10_LoopHeads.l2]
    exact Ev.ifn (by omega) (hend j)
  | succ d ih =>
    intro j hj hd
    refine Ev.succ ?_; simp only [locksteplaw10_LoopHeads.l2]
    refine Ev.ifp (by omega) (Ev.bind (red_ok hG) ?_)
    cases acb (nb S) with
    | false => exact hend j
    | true =>
      refine Ev.succ ?_; simp only [locksteplaw10_LoopHeads.j4]
      obtain ⟨h, h1, h2, h3⟩ := lps_at hi
      obtain ⟨k, k1, k2, k3⟩ := lps_at (S := S) (i := j) (by omega)
      have l1 := lp1_len (S := S) h
      have l2 := lp1_len (S := S) k
      refine Ev.ifp trivial (heads_l3 (up2 S) (up2 (pr S)) (by omega) hi (by omega) (by rw [h3]; omega) (by rw [k3]; omega) ?_ (ih (j + 1) (by omega) (by omega)) _ 0 0 (Nat.zero_le _) rfl (by simp))
      rw [h3, k3]
      exact comm_nest hG h2 k2
theorem heads_l1 (hG : Gr S) {i : Nat} (hi : i < (lps S).length) (H : Ev (fun k => locksteplaw10_LoopHeads.l0 k (lps S) ((i + 1 : Nat) : Int) (up2 S) (up2 (pr S))) true) (d : Nat) : ∀ m, m ≤ (lps S)[i].f1.length → (lps S)[i].f1.length - m = d →
    Ev (fun k => locksteplaw10_LoopHeads.l1 k (lps S) (i : Int) (m : Int) (up2 S) (up2 (pr S))) true := by
  have hle := hG.le
  have hr1 : rd_T43 (lps S) (i : Int) = (lps S)[i] := by simp [rd_T43, hi]
  obtain ⟨h, h1, h2, h3⟩ := lps_at hi
  have l1 := lp1_len (S := S) h
  have hlen : (lps S)[i].f1.length ≤ 64 := by rw [h3]; omega
  induction d with
  | zero =>
    intro m hm hd
    refine Ev.succ ?_; simp only [locksteplaw10_LoopHeads.l1]
    rw [hr1]
    exact Ev.ifp (by omega) (Ev.ifp (by omega) (Ev.ifn (by omega) (heads_l2 hG hi H _ 0 (Nat.zero_le _) rfl)))
  | succ d ih =>
    intro m hm hd
    have hml : m < (lps S)[i].f1.length := by omega
    have hn := ih (m + 1) (by omega) (by omega)
    have hx : ∃ x : Nat, (lps S)[i].f1.getD m 0 = (x : Int) ∧ x < S.length ∧ Lp S h x := by
      have hm2 := getD_mem (l := (lps S)[i].f1) (d := 0) hml
      generalize (lps S)[i].f1.getD m 0 = y at hm2 ⊢
      rw [h3] at hm2
      have hm3 : y ∈ up ((List.range S.length).filter (lpb S h)) := hm2
      obtain ⟨x, _, rfl⟩ := List.mem_map.mp hm3
      exact ⟨x, rfl, mem_body.mp hm2⟩
    obtain ⟨x, e, hx1, hx2⟩ := hx
    refine Ev.succ ?_; simp only [locksteplaw10_LoopHeads.l1]
    rw [hr1, wrap_nat (by omega), show rd (lps S)[i].f1 (m : Int) = (lps S)[i].f1.getD m 0 by simp [rd], e, show (lps S)[i].f0 = (h : Int) by rw [h3]; rfl]
    refine Ev.ifp (by omega) (Ev.ifp (by omega) (Ev.ifp (by omega) (Ev.ifp (by omega) (Ev.bind (rover_ok hG _ hG.pos hx1 (v := true) ⟨fun _ => lp_dm h2 hx2, fun _ => rfl⟩) (Ev.ifp rfl hn)))))
theorem heads_l0 (hG : Gr S) (d : Nat) : ∀ i, i ≤ (lps S).length → (lps S).length - i = d → Ev (fun k => locksteplaw10_LoopHeads.l0 k (lps S) (i : Int) (up2 S) (up2 (pr S))) true := by
  have hle := hG.le
  have hbb : big = 9223372036854775807 := rfl
  induction d with
  | zero =>
    intro i hi hd
    refine Ev.succ ?_; simp only [locksteplaw10_LoopHeads.l0]
    exact Ev.ifn (by omega) Ev.pure
  | succ d ih =>
    intro i hi hd
    have hil : i < (lps S).length := by omega
    have hr1 : rd_T43 (lps S) (i : Int) = (lps S)[i] := by simp [rd_T43, hil]
    obtain ⟨h, h1, h2, h3⟩ := lps_at hil
    have l1 := lp1_len (S := S) h
    have hin : (lps S)[i].f0 ∈ (lps S)[i].f1 := by rw [h3]; exact mem_body.mpr ⟨h1, .inl rfl⟩
    refine Ev.succ ?_; simp only [locksteplaw10_LoopHeads.l0]
    rw [hr1]
    refine Ev.ifp (by omega) (Ev.ifp (by omega) (Ev.bind (has_ok _ _ (by rw [h3]; omega)) (Ev.ifp (decide_eq_true hin) ?_)))
    exact heads_l1 hG hil (ih (i + 1) (by omega) (by omega)) _ 0 (Nat.zero_le _) rfl
end
theorem loopHeads : locksteplaw10_LoopHeads.Pure := by
  intro l0 hrow
  refine Ev.at ?_
  have hbb : big = 9223372036854775807 := rfl
  have hml : maxLen ≤ big := by decide
  have hb : l0.length ≤ big := Nat.le_trans hrow.1 hml
  unfold locksteplaw10_LoopHeads.f
  refine Ev.bind awake_ev (Ev.ifp rfl ?_)
  have ht : Ev (fun k => locksteplaw10_LoopHeads.j0 k l0 true) true := by
    refine Ev.succ ?_; simp only [locksteplaw10_LoopHeads.j0]; exact Ev.ifp trivial Ev.pure
  by_cases h16 : (l0.length : Int) > 12
  · exact Ev.ifp h16 ht
  · refine Ev.ifn h16 ?_
    obtain ⟨b, h1, h2⟩ := small_ev l0 hb
    refine Ev.bind h1 ?_
    cases b with
    | false => exact ht
    | true =>
      have hr : ∀ l ∈ l0, l.length ≤ big := fun l hl => by have := (h2 rfl).2 l hl; omega
      refine Ev.succ ?_; simp only [locksteplaw10_LoopHeads.j0]
      refine Ev.ifn (by decide) ?_
      cases hg : goodb l0 with
      | false => exact Ev.bind (make_bad hb hr hg) (Ev.ifn (by decide) (Ev.bind (all_no (by simp) (by simp) may_nil) (Ev.ifp (by rfl) (Ev.bind (red_no may_nil) Ev.pure))))
      | true =>
        obtain ⟨S, h, rfl⟩ := good_gr hg
        exact Ev.bind (make_ok h) (Ev.ifp rfl (Ev.bind (all_ok h) (heads_l0 h _ 0 (Nat.zero_le _) rfl)))
end Go.Proofs.Ytoekeknfeinphaa.GP
namespace Go.Proofs.Ytoekeknfeinphaa.Pure
theorem LoopHeads : Go.Proofs.Ytoekeknfeinphaa.G.locksteplaw10_LoopHeads.Pure := GP.loopHeads
end Go.Proofs.Ytoekeknfeinphaa.Pure
namespace Go.Proofs.Ytoekeknfeinphaa.loopHeads
open Go.Proofs.YtoekeknfeinphaaH Go.Proofs.Ytoekeknfeinphaa.G
open Go.ChangeShapes Go.WideShapes Go.ChangeAt Go.RowKit
open Go.ChangeMaps (open_string shut_string)
set_option linter.unusedVariables false
theorem own : ownKnob Try.prog.godebug = none := by kernel_rfl
theorem laidOut : laidOutB Try.prog = true := by kernel_rfl
def IsRow (k : IntKind) (w : World) (a : Option Addr) (len cap : Nat) (zs : List Int) : Prop :=
  (a = none ∧ len = 0 ∧ cap = 0 ∧ zs = []) ∨
  ∃ x, a = some x ∧ len ≤ cap ∧ cap ≤ maxLen ∧ zs.length = cap ∧ (∀ i, i < zs.length → w.cell? (x.add i) = some (.int k (zs.getD i 0))) ∧ ∀ n ∈ zs, (Lit.int k n).wf = true
set_option maxRecDepth 100000 in
theorem lifted (os : Os) (started : os.Started) (H : Type) (enc : TypeId × Value → H) :
    ReturnsInHanded {} Try.checked os 5 .any (Rows.loopHeadsSpec.pre6 enc Try.prog Try.f5 Rows.loopHeadsRow.domain false) (Rows.loopHeadsSpec.post enc Try.prog Try.f5 false true false false) := by
  refine returnsInHanded_of_change_sized (C := Try.checked) own started (by kernel_rfl) Try.func5
    (ChangeSpec.witness6 (enc := enc) (C := Try.checked) false ⟨#[], #[.slice none 0 0], []⟩ 8 (by kernel_rfl) (by kernel_rfl) (by kernel_rfl) (by kernel_rfl)) ?_
  intro W base args ds gs before hval0 hW hcnd hsz0 _
  have hsz : (DataW.weightsEach Try.prog (Try.f5.params.toList ++ Rows.loopHeadsSpec.plain.varTypes Try.prog) (ds ++ gs)).all (· ≤ reachBytes) = true := hsz0
  have hval : ∀ (j : Nat) t v, Try.f5.params[j]? = some t → args[j]? = some v → Value.okWide Try.prog W .any base t v := hval0
  have hW' := hW
  obtain ⟨p, q, hA0, hV, rfl, hfz, hnd⟩ := hW
  have hA : DataW.TrodAll enc Try.prog W 0 (fun _ => true) true Try.f5.params.toList args.toList ds p := hA0
  rw [Try.params5] at hA hval hsz
  obtain ⟨v0, vs0, d0, ds0, p0, q0, hargs, rfl, rfl, h0, r0⟩ := trodAll_cons hA
  obtain ⟨rfl, rfl, rfl⟩ := trodAll_nil r0
  obtain rfl : args = #[v0] := by cases args; simp_all
  obtain ⟨rfl, rfl⟩ := trodVars_none hV
  obtain ⟨a0, len0, cap0, rfl⟩ := okWide_slice Try.underlying22 (hval 0 22 v0 rfl rfl)
  have k0 := h0
  have lt0 : ∀ x ∈ p0, x.block < W.heap.size := by obtain ⟨m, hm⟩ := k0; exact DataW.trod_lt m _ _ _ hm
  obtain ⟨l0, rfl, w0, y0, m0⟩ := C_of_rows Try.underlying22 Try.underlying31 Try.underlying3 (by kernel_rfl) (by kernel_rfl) h0
  clear hA0 hval0 hsz0 hsz
  refine (G.locksteplaw10_LoopHeads.walk Pure.LoopHeads a0 cap0 l0 W w0 y0 m0).mono fun e W' ⟨he, bel⟩ => ?_
  subst he
  exact ⟨_, rfl, _, _, _, [], _, [], hW', trodAll_mk1 (shut_bool Try.underlying4 _), (trodAll_cons_mk (Below.trod laidOut (by kernel_rfl) (of_decide_eq_true (by kernel_rfl)) k0 bel lt0) trodAll_mk0), rfl, bel.frame _, fun h => by cases h⟩
theorem over : Rows.loopHeadsRow.holds Try.pinned (OpenSpec.ofChange Rows.loopHeadsSpec) :=
  OpenClaim.holds_of_wide 5 Try.f5 rfl rfl rfl rfl rfl rfl rfl ⟨rfl, rfl, rfl, rfl, rfl⟩ rfl rfl rfl rfl rfl (by kernel_rfl) Try.func5 (by kernel_rfl)
    (of_decide_eq_true (by kernel_rfl)) (by unfold Func.isWrapper; first | (rw [if_pos (by decide +kernel)]; kernel_rfl) | (rw [if_neg (by decide +kernel)]; exact ⟨rfl, rfl⟩))
    (fun os started H enc _ => lifted os started H enc)
theorem proved : Rows.LoopHeadsSaid := over
#print axioms proved
end Go.Proofs.Ytoekeknfeinphaa.loopHeads
namespace Go.Proofs.Ytoekeknfeinphaa
/-- The row, under a short name, for the claim. -/
theorem loopHeads_holds : Rows.LoopHeadsSaid := loopHeads.proved
end Go.Proofs.Ytoekeknfeinphaa
