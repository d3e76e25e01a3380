/- Plain laws of the document's Reach, Small and dominance. No conditions beyond each theorem's own. -/
import Derived.Test.YtmbkpnhmeljcgaaGw
set_option linter.unusedVariables false
set_option linter.unusedSimpArgs false
namespace Go.PrS
open Go Go.Ev Go.Proofs
theorem small_l (s : List (List Int)) (hb : s.length ≤ reachBytes) (d : Nat) : ∀ (i : Nat), i ≤ s.length → s.length - i = d → i ≤ 101 →
    (EvTo (fun k => lockstepref06_Small_l2 k s (i : Int)) (.inl ()) ∧ s.length ≤ 101 ∧ ∀ l ∈ s.drop i, l.length ≤ 100) ∨ EvTo (fun k => lockstepref06_Small_l2 k s (i : Int)) (.inr false) := by
  have hbb : reachBytes = 140737488351232 := rfl
  induction d with
  | zero =>
    intro i hi hd h1
    refine .inl ⟨EvTo.succ ?_, by omega, by rw [List.drop_of_length_le (by omega)]; simp⟩
    simp only [lockstepref06_Small_l2]
    exact EvTo.ifn (by rw [decide_eq_true_eq]; omega) EvTo.pure
  | succ d ih =>
    intro i hi hd h1
    have hil : i < s.length := by omega
    by_cases hc : (s.getD i []).length > 100
    · refine .inr (EvTo.succ ?_)
      simp only [lockstepref06_Small_l2, Int.toNat_natCast]
      exact EvTo.ifp (decide_eq_true (by omega)) (EvTo.ifp (by omega) (EvTo.ifn (by rw [decide_eq_false_iff_not]; omega) EvTo.pure))
    · by_cases hc2 : i > 100
      · refine .inr (EvTo.succ ?_)
        simp only [lockstepref06_Small_l2, Int.toNat_natCast]
        exact EvTo.ifp (decide_eq_true (by omega)) (EvTo.ifp (by omega) (EvTo.ifp (by rw [decide_eq_false_iff_not]; omega) (EvTo.ifp (decide_eq_true (by omega)) EvTo.pure)))
      · have hst : ∀ v, EvTo (fun k => lockstepref06_Small_l2 k s ((i + 1 : Nat) : Int)) v → EvTo (fun k => lockstepref06_Small_l2 k s (i : Int)) v := fun v hv => by
          refine EvTo.succ ?_
          simp only [lockstepref06_Small_l2, Int.toNat_natCast]
          rw [wrapS hil (by omega)]
          exact EvTo.ifp (decide_eq_true (by omega)) (EvTo.ifp (by omega) (EvTo.ifp (by rw [decide_eq_false_iff_not]; omega) (EvTo.ifn (by rw [decide_eq_true_eq]; omega) hv)))
        rcases ih (i + 1) (by omega) (by omega) (by omega) with ⟨h2, h3, h4⟩ | h2
        · refine .inl ⟨hst _ h2, h3, ?_⟩
          rw [drop_getD s i [] hil]
          intro l hl
          rcases List.mem_cons.mp hl with e | e
          · subst e; omega
          · exact h4 l e
        · exact .inr (hst _ h2)
theorem small_ev (s : List (List Int)) (hb : s.length ≤ reachBytes) : ∃ b, EvTo (fun k => lockstepref06_Small k s) b ∧ (b = true → s.length ≤ 101 ∧ ∀ l ∈ s, l.length ≤ 100) := by
  rcases small_l s hb s.length 0 (by omega) (by omega) (by omega) with ⟨h1, h2, h3⟩ | h1
  · refine ⟨true, ?_, fun _ => ⟨h2, by simpa using h3⟩⟩
    unfold lockstepref06_Small
    exact EvTo.bind h1 (by show EvTo (fun _ => some true) _; exact EvTo.pure)
  · refine ⟨false, ?_, fun h => by cases h⟩
    unfold lockstepref06_Small
    exact EvTo.bind h1 (by show EvTo (fun _ => some false) _; exact EvTo.pure)
def rbn (n : Nat) (s : Sn) : List Bool := (List.range n).map s
@[simp] theorem rbn_length (n : Nat) (s : Sn) : (rbn n s).length = n := by simp [rbn]
theorem rd_rbn (n : Nat) (s : Sn) {y : Nat} (h : y < n) : (rbn n s).getD y false = s y := by
  simp only [rbn]; exact getD_map_range _ _ _ _ h
theorem set_rbn (n : Nat) (s : Sn) (y : Nat) : (rbn n s).set y true = rbn n (upd s y) :=
  set_map_range _ _ _ _ _ (by simp [upd]) (fun j hj => by simp [upd, hj])
/-- No way leads out of it. -/
def Closed (S : List (List Nat)) (w : Int) (C : Nat → Prop) : Prop := ∀ a, C a → ∀ y ∈ S.getD a [], (y : Int) ≠ w → C y
def Sub (S : List (List Nat)) (w : Int) (X Y : Sn) : Prop := (∀ z, X z = true → Y z = true) ∧ ∀ C, Closed S w C → (∀ z, X z = true → C z) → ∀ z, Y z = true → C z
theorem Sub.refl (S : List (List Nat)) (w : Int) (X : Sn) : Sub S w X X := ⟨fun _ h => h, fun _ _ h => h⟩
theorem Sub.trans {S : List (List Nat)} {w : Int} {X Y Z : Sn} (h1 : Sub S w X Y) (h2 : Sub S w Y Z) : Sub S w X Z :=
  ⟨fun z h => h2.1 z (h1.1 z h), fun C hC h => h2.2 C hC (h1.2 C hC h)⟩

theorem reach_l2 {S : List (List Nat)} (h : Gr S) (P : List (List Int)) (w t8 : Int) (i : Nat) (hi : i < S.length) (d : Nat) :
    ∀ (j : Nat) (X : Sn), (S.getD i []).length - j = d → j ≤ (S.getD i []).length →
    ∃ Y, EvTo (fun k => lockstepref06_Reach_l12 k w (ordG S P) t8 (i : Int) (rbn S.length X) (j : Int)) (rbn S.length Y, ordG S P) ∧ Sub S w X Y ∧ (X i = true → ∀ y ∈ (S.getD i []).drop j, (y : Int) ≠ w → Y y = true) := by
  have hle := h.le
  have hdeg := gr_len h hi
  have hux : (ordG S P).1.length = S.length := up2_length S
  induction d with
  | zero =>
    intro j X hd hj
    refine ⟨X, EvTo.succ ?_, Sub.refl _ _ _, fun _ y hy => by rw [List.drop_of_length_le (by omega)] at hy; cases hy⟩
    simp only [lockstepref06_Reach_l12]
    rw [rbn_length, hux, Int.toNat_natCast, rd_rbn _ _ hi, getD_up2, up_length]
    refine EvTo.ifp (by omega) ?_
    by_cases hX : X i = true
    · exact EvTo.ifp hX (EvTo.ifp (by omega) (EvTo.ifn (by rw [decide_eq_true_eq]; omega) EvTo.pure))
    · exact EvTo.ifn hX EvTo.pure
  | succ d ih =>
    intro j X hd hj
    have hj1 : j < (S.getD i []).length := by omega
    by_cases hX : X i = true
    · have hy := (h.row i hi).2 _ (getD_mem (d := 0) hj1)
      have hdr := drop_getD (S.getD i []) j 0 hj1
      have hmem : (S.getD i []).getD j 0 ∈ S.getD i [] := getD_mem hj1
      by_cases hw : (((S.getD i []).getD j 0 : Nat) : Int) = w
      · obtain ⟨Y, h1, h2, h3⟩ := ih (j + 1) X (by omega) (by omega)
        refine ⟨Y, EvTo.succ ?_, h2, fun _ z hz hzw => ?_⟩
        · simp only [lockstepref06_Reach_l12]
          rw [rbn_length, hux, Int.toNat_natCast, rd_rbn _ _ hi, getD_up2, up_length, Int.toNat_natCast, getD_up, wrapS hj1 (by omega)]
          exact EvTo.ifp (by omega) (EvTo.ifp hX (EvTo.ifp (by omega) (EvTo.ifp (decide_eq_true (by omega)) (EvTo.ifp (by omega) (EvTo.ifp (by omega) (EvTo.ifn (by rw [hw]; simp) h1))))))
        · rw [hdr] at hz
          rcases List.mem_cons.mp hz with e | e
          · subst e; exact absurd hw hzw
          · exact h3 hX z e hzw
      · have hs : Sub S w X (upd X ((S.getD i []).getD j 0)) := ⟨fun z hz => upd_true.mpr (.inr hz), fun C hC hXC z hz => by
          rcases upd_true.mp hz with e | e
          · subst e; exact hC i (hXC i hX) _ hmem hw
          · exact hXC z e⟩
        obtain ⟨Y, h1, h2, h3⟩ := ih (j + 1) (upd X ((S.getD i []).getD j 0)) (by omega) (by omega)
        refine ⟨Y, EvTo.succ ?_, hs.trans h2, fun _ z hz hzw => ?_⟩
        · simp only [lockstepref06_Reach_l12]
          rw [rbn_length, hux, Int.toNat_natCast, rd_rbn _ _ hi, getD_up2, up_length, Int.toNat_natCast, getD_up, Int.toNat_natCast, set_rbn, wrapS hj1 (by omega)]
          exact EvTo.ifp (by omega) (EvTo.ifp hX (EvTo.ifp (by omega) (EvTo.ifp (decide_eq_true (by omega)) (EvTo.ifp (by omega) (EvTo.ifp (by omega) (EvTo.ifp (by simpa using hw) (EvTo.ifp (by omega) (EvTo.ifp (by omega) (EvTo.ifp (by omega) h1)))))))))
        · rw [hdr] at hz
          rcases List.mem_cons.mp hz with e | e
          · subst e; exact h2.1 _ (upd_self _ _)
          · exact h3 (upd_true.mpr (.inr hX)) z e hzw
    · refine ⟨X, EvTo.succ ?_, Sub.refl _ _ _, fun hXi => absurd hXi hX⟩
      simp only [lockstepref06_Reach_l12]
      rw [rbn_length, Int.toNat_natCast, rd_rbn _ _ hi]
      exact EvTo.ifp (by omega) (EvTo.ifn hX EvTo.pure)
theorem reach_l1 {S : List (List Nat)} (h : Gr S) (P : List (List Int)) (w t8 : Int) (d : Nat) :
    ∀ (i : Nat) (X : Sn), S.length - i = d → i ≤ S.length →
    ∃ Y, EvTo (fun k => lockstepref06_Reach_l9 k w (ordG S P) t8 (rbn S.length X) (i : Int)) (rbn S.length Y, ordG S P) ∧ Sub S w X Y ∧ (∀ a, i ≤ a → a < S.length → X a = true → ∀ y ∈ S.getD a [], (y : Int) ≠ w → Y y = true) := by
  have hle := h.le
  induction d with
  | zero =>
    intro i X hd hi
    refine ⟨X, EvTo.succ ?_, Sub.refl _ _ _, fun a h1 h2 => by omega⟩
    simp only [lockstepref06_Reach_l9]
    exact EvTo.ifn (by rw [rbn_length, decide_eq_true_eq]; omega) EvTo.pure
  | succ d ih =>
    intro i X hd hi
    have hil : i < S.length := by omega
    obtain ⟨Y, h1, h2, h3⟩ := reach_l2 h P w t8 i hil _ 0 X rfl (by omega)
    obtain ⟨Z, h4, h5, h6⟩ := ih (i + 1) Y (by omega) (by omega)
    refine ⟨Z, EvTo.succ ?_, h2.trans h5, fun a q1 q2 hXa y hy hyw => ?_⟩
    · simp only [lockstepref06_Reach_l9]
      rw [rbn_length, wrapS hil (by omega)]
      exact EvTo.ifp (decide_eq_true (by omega)) (EvTo.bind h1 h4)
    · by_cases e : a = i
      · subst e
        exact h5.1 y (h3 hXa y (by simpa using hy) hyw)
      · exact h6 a (by omega) q2 (h2.1 a hXa) y hy hyw
noncomputable def rchb (S : List (List Nat)) (w : Int) (r : Nat) : Sn := fun z => @decide (Rch S w r z) (Classical.propDecidable _)
theorem rchb_true {S : List (List Nat)} {w : Int} {r z : Nat} : rchb S w r z = true ↔ Rch S w r z := by unfold rchb; exact @decide_eq_true_iff _ (Classical.propDecidable _)
theorem rch_closed (S : List (List Nat)) (w : Int) (r : Nat) : Closed S w (Rch S w r) := fun _ ha _ hy hw => .step ha hy hw
theorem closed_eq {S : List (List Nat)} {w : Int} {r : Nat} {X : Sn} (hr : X r = true) (hX : ∀ z, X z = true → Rch S w r z) (hc : Closed S w (fun z => X z = true)) : X = rchb S w r := by
  funext z
  have e : X z = true ↔ rchb S w r z = true := by
    rw [rchb_true]
    refine ⟨hX z, fun hz => ?_⟩
    induction hz with
    | base _ => exact hr
    | @step a y _ hy hw ih => exact hc a ih y hy hw
  cases h1 : X z <;> cases h2 : rchb S w r z
  · rfl
  · rw [h1, h2] at e; exact absurd (e.mpr rfl) (by decide)
  · rw [h1, h2] at e; exact absurd (e.mp rfl) (by decide)
  · rfl
theorem reach_l0 {S : List (List Nat)} (h : Gr S) (P : List (List Int)) (w : Int) (r : Nat) (hr : r < S.length) (d : Nat) :
    ∀ (t : Nat) (X : Sn), S.length - t = d → t ≤ S.length → X r = true → (∀ z, X z = true → Rch S w r z) → (Closed S w (fun z => X z = true) ∨ t + 1 + cnt S.length X ≤ S.length) →
    EvTo (fun k => lockstepref06_Reach_l6 k w (ordG S P) (rbn S.length X) (t : Int)) (rbn S.length (rchb S w r), ordG S P) := by
  have hle := h.le
  induction d with
  | zero =>
    intro t X hd ht hXr hX hI
    refine EvTo.succ ?_; simp only [lockstepref06_Reach_l6]
    refine EvTo.ifn (by rw [rbn_length, decide_eq_true_eq]; omega) ?_
    rcases hI with hc | hc
    · rw [closed_eq hXr hX hc]; exact EvTo.pure
    · omega
  | succ d ih =>
    intro t X hd ht hXr hX hI
    have htl : t < S.length := by omega
    obtain ⟨Y, h1, hY, hYa⟩ := reach_l1 h P w (t : Int) _ 0 X rfl (by omega)
    refine EvTo.succ ?_; simp only [lockstepref06_Reach_l6]
    rw [rbn_length, wrapS htl (by omega)]
    refine EvTo.ifp (decide_eq_true (by omega)) (EvTo.bind h1 ?_)
    refine ih (t + 1) Y (by omega) (by omega) (hY.1 r hXr) (hY.2 _ (rch_closed S w r) hX) ?_
    by_cases hc : Closed S w (fun z => X z = true)
    · refine .inl (fun a ha y hy hw => ?_)
      exact hY.1 y (hc a (hY.2 _ hc (fun _ hz => hz) a ha) y hy hw)
    · right
      rcases hI with hc' | hI
      · exact absurd hc' hc
      · have : ∃ a y, X a = true ∧ y ∈ S.getD a [] ∧ (y : Int) ≠ w ∧ X y = false := by
          refine Classical.byContradiction (fun hn => hc (fun a ha y hy hw => ?_))
          cases hq : X y with
          | true => exact hq
          | false => exact absurd ⟨a, y, ha, hy, hw, hq⟩ hn
        obtain ⟨a, y, ha, hy, hw, hq⟩ := this
        have haS := (hX a ha).lt h hr
        have := cnt_lt hY.1 ((h.row a haS).2 y hy) hq (hYa a (Nat.zero_le _) haS ha y hy hw)
        omega
theorem reach_ok {S : List (List Nat)} (h : Gr S) (P : List (List Int)) (w : Int) (r : Nat) (hr : r < S.length) : EvTo (fun k => lockstepref06_Reach k (ordG S P) (r : Int) w) (rbn S.length (rchb S w r)) := by
  have hle := h.le
  unfold lockstepref06_Reach
  have e0 : List.replicate (((ordG S P).1.length : Int)).toNat false = rbn S.length none' := by
    rw [up2_length, Int.toNat_natCast]
    apply List.ext_getElem
    · simp
    · intro j h1 h2; simp [rbn, none']
  rw [e0, up2_length]
  refine EvTo.ifp (by omega) ?_
  by_cases hw : (r : Int) = w
  · refine EvTo.ifp (by simpa using hw) (EvTo.pure' ?_)
    congr 1
    funext z
    cases hq : rchb S w r z with
    | false => rfl
    | true =>
      have h1 := rchb_true.mp hq
      exfalso
      induction h1 with
      | base h2 => exact h2 hw
      | step h1 _ _ ih => exact ih (rchb_true.mpr h1)
  · have hu := cnt_upd (n := S.length) (s := none') hr rfl
    rw [cnt_none] at hu
    have h0 := reach_l0 h P w r hr S.length 0 (upd none' r) (by omega) (by omega) (upd_self _ _) (fun z hz => by
      rcases upd_true.mp hz with e | e
      · subst e; exact .base hw
      · cases e) (.inr (by omega))
    rw [rbn_length, Int.toNat_natCast, set_rbn]
    exact EvTo.ifn (by simpa using hw) (EvTo.ifp (by omega) (EvTo.bind h0 EvTo.pure))
/-- the document's dominance -/
theorem rover_ok {S : List (List Nat)} (h : Gr S) (P : List (List Int)) {r a b : Nat} (hr : r < S.length) (hb : b < S.length) : EvTo (fun k => lockstepref07_Over k (ordG S P) (r : Int) (a : Int) (b : Int)) (rchb S (-1) r b && !rchb S (a : Int) r b) := by
  unfold lockstepref07_Over
  refine EvTo.bind (reach_ok h P (-1) r hr) ?_
  rw [rbn_length, Int.toNat_natCast, rd_rbn _ _ hb]
  refine EvTo.ifp (by omega) ?_
  cases e : rchb S (-1) r b with
  | false => exact EvTo.ifn (by decide) (EvTo.pure' (by simp))
  | true =>
    refine EvTo.ifp rfl (EvTo.bind (reach_ok h P (a : Int) r hr) ?_)
    rw [rbn_length, rd_rbn _ _ hb]
    exact EvTo.ifp (by omega) (EvTo.pure' (by simp))
theorem rover_dm {S : List (List Nat)} {r a b : Nat} : (rchb S (-1) r b && !rchb S (a : Int) r b) = true ↔ Dm S r a b := by
  rw [Bool.and_eq_true, rchb_true, Bool.not_eq_true', ← Bool.not_eq_true, rchb_true]
  exact Iff.rfl
section
variable {S : List (List Nat)} {r : Nat} {at_ par : Nat → Nat}
theorem Gd.small (hD : Gd S r at_ par) : (dtl S r).length ≤ 1000 := by rw [dtl_length]; have := hD.gr.le; omega
theorem Gd.over_ev (hD : Gd S r at_ par) {a b : Nat} (ha : a < S.length) (hb : b < S.length) {v : Bool} (h : v = true ↔ Dm S r a b) : EvTo (fun k => dom_Over k (dtl S r) (a : Int) (b : Int)) v :=
  (over_ok _ hD.small _ _).to (hD.over_eq ha hb v h)
open Classical in
theorem Gd.over_ev' (hD : Gd S r at_ par) {a b : Nat} (ha : a < S.length) (hb : b < S.length) : EvTo (fun k => dom_Over k (dtl S r) (a : Int) (b : Int)) (decide (Dm S r a b)) :=
  hD.over_ev ha hb decide_eq_true_iff
end
theorem order_nil (r : Int) : EvTo (fun k => graph_Order k ([], [], ()) r) [] := order_no r (may_bad (s := []) (by simp) (by simp) (by decide) [])
theorem tree_nil (r : Int) : EvTo (fun k => dom_Tree k ([], [], ()) r) [] := tree_no (order_nil r)
end Go.PrS
