/- Texts of this session, joined by wip/tools/merge.py. Conditions: each theorem's own. -/
import Derived.Test.YtoekeknfeinphaaMDomMoreb
import Derived.Test.YtoekeknfeinphaaMDomMorec
import Derived.Test.YtoekeknfeinphaaHRows
import Derived.Test.YtoekeknfeinphaaRows
import Derived.WalkKit
import Derived.ProofKit
import Derived.OpenShut
import Derived.ShutString
import Derived.ChangeOld
import Derived.Below
import Derived.SizedLaws
import Derived.Test.YtoekeknfeinphaaWSized
namespace Go.Proofs.Ytoekeknfeinphaa.GP
open Go.RowKit Go.Proofs.Ytoekeknfeinphaa.G Go.Proofs.YtoekeknfeinphaaW.PrintWords

theorem awake_ok : locksteplaw10_awake.f 100 = some true := by decide +kernel
theorem awake_ev : Ev (fun k => locksteplaw10_awake.f k) true := Ev.of_at (fun k => locksteplaw10_awake.mono k) awake_ok

theorem small_l0 (d : Nat) : ∀ (i : Nat) (s : List (List Int)), s.length ≤ big → i ≤ s.length → s.length - i = d → i ≤ 101 →
    ∃ b, Ev (fun k => lockstepref06_Small.l0 k s (i : Int)) b ∧ (b = true → s.length ≤ 101 ∧ ∀ l ∈ s.drop i, l.length ≤ 100) := by
  induction d with
  | zero =>
    intro i s hb hi hd h1
    refine ⟨true, Ev.succ ?_, fun _ => ⟨by omega, by rw [List.drop_of_length_le (by omega)]; simp⟩⟩
    simp only [lockstepref06_Small.l0]
    exact Ev.ifn (by omega) Ev.pure
  | succ d ih =>
    intro i s hb hi hd h1
    have hbb : big = 9223372036854775807 := rfl
    have hrd : rd_L1 s (i : Int) = s.getD i [] := by simp [rd_L1]
    by_cases hc : ((s.getD i []).length : Int) > 100
    · refine ⟨false, Ev.succ ?_, fun h => by cases h⟩
      simp only [lockstepref06_Small.l0]
      refine Ev.ifp (by omega) (Ev.ifp (by omega) (Ev.ifp (by rw [hrd]; exact hc) Ev.pure))
    · by_cases hc2 : (i : Int) > 100
      · refine ⟨false, Ev.succ ?_, fun h => by cases h⟩
        simp only [lockstepref06_Small.l0]
        refine Ev.ifp (by omega) (Ev.ifp (by omega) (Ev.ifn (by rw [hrd]; exact hc) (Ev.ifp hc2 Ev.pure)))
      · obtain ⟨b, he, hb'⟩ := ih (i + 1) s hb (by omega) (by omega) (by omega)
        refine ⟨b, Ev.succ ?_, fun h => ⟨(hb' h).1, ?_⟩⟩
        · simp only [lockstepref06_Small.l0]
          refine Ev.ifp (by omega) (Ev.ifp (by omega) (Ev.ifn (by rw [hrd]; exact hc) (Ev.ifn hc2 ?_)))
          rw [wrap_nat (by omega)]; exact he
        · rw [drop_getD s i [] (by omega)]
          intro l hl
          rcases List.mem_cons.mp hl with e | e
          · subst e; omega
          · exact (hb' h).2 l e
theorem small_ev (s : List (List Int)) (hb : s.length ≤ big) : ∃ b, Ev (fun k => lockstepref06_Small.f k s) b ∧ (b = true → s.length ≤ 101 ∧ ∀ l ∈ s, l.length ≤ 100) := by
  obtain ⟨b, h1, h2⟩ := small_l0 s.length 0 s hb (by omega) (by omega) (by omega)
  exact ⟨b, by unfold lockstepref06_Small.f; simpa using h1, by simpa using h2⟩

/-! #### Reach -/
def rbn (n : Nat) (s : Sn) : List Bool := (List.range n).map s
@[simp] theorem rbn_length (n : Nat) (s : Sn) : (rbn n s).length = n := by simp [rbn]
theorem rd_rbn (n : Nat) (s : Sn) {y : Nat} (h : y < n) : rdOf false (rbn n s) (y : Int) = s y := by
  simp only [rdOf, Int.toNat_natCast, rbn]; exact getD_map_range _ _ _ _ h
theorem set_rbn (n : Nat) (s : Sn) (y : Nat) : (rbn n s).set y true = rbn n (upd s y) :=
  set_map_range _ _ _ _ _ (by simp [upd]) (fun j hj => by simp [upd, hj])
/-- No way leads out of it. -/
def Closed (S : List (List Nat)) (w : Int) (C : Nat → Prop) : Prop := ∀ a, C a → ∀ y ∈ S.getD a [], (y : Int) ≠ w → C y
def Sub (S : List (List Nat)) (w : Int) (X Y : Sn) : Prop := (∀ z, X z = true → Y z = true) ∧ ∀ C, Closed S w C → (∀ z, X z = true → C z) → ∀ z, Y z = true → C z
theorem Sub.refl (S : List (List Nat)) (w : Int) (X : Sn) : Sub S w X X := ⟨fun _ h => h, fun _ _ h => h⟩
theorem Sub.trans {S : List (List Nat)} {w : Int} {X Y Z : Sn} (h1 : Sub S w X Y) (h2 : Sub S w Y Z) : Sub S w X Z :=
  ⟨fun z h => h2.1 z (h1.1 z h), fun C hC h => h2.2 C hC (h1.2 C hC h)⟩

theorem reach_l2 {S : List (List Nat)} (h : Gr S) (P : List (List Int)) (w : Int) (t i : Nat) (hi : i < S.length) (v : List Bool) (d : Nat) :
    ∀ (j : Nat) (X : Sn), (S.getD i []).length - j = d → j ≤ (S.getD i []).length →
    (∀ Y, Sub S w X Y → (X i = true → ∀ y ∈ (S.getD i []).drop j, (y : Int) ≠ w → Y y = true) → Ev (fun k => lockstepref06_Reach.l1 k w (rbn S.length Y) (t : Int) ((i + 1 : Nat) : Int) (up2 S) P) v) →
    Ev (fun k => lockstepref06_Reach.l2 k w (rbn S.length X) (t : Int) (i : Int) (j : Int) (up2 S) P) v := by
  have hle := h.le
  have hdeg := gr_len h hi
  induction d with
  | zero =>
    intro j X hd hj hK
    have hK' := hK X (Sub.refl _ _ _) (fun _ y hy => by rw [List.drop_of_length_le (by omega)] at hy; cases hy)
    have hj3 : Ev (fun k => lockstepref06_Reach.j3 k w (rbn S.length X) (t : Int) (i : Int) (j : Int) false (up2 S) P) v := by
      refine Ev.succ ?_; simp only [lockstepref06_Reach.j3]
      refine Ev.ifn (by decide) ?_
      rw [wrap_nat (by omega)]; exact hK'
    refine Ev.succ ?_; simp only [lockstepref06_Reach.l2]
    rw [rd_rbn _ _ hi, rdL_up, up_length]
    refine Ev.ifp (by omega) (Ev.ifp (by rw [rbn_length]; omega) ?_)
    by_cases hX : X i = true
    · refine Ev.ifp hX (Ev.ifp (by rw [up2_length]; omega) ?_)
      rw [decide_eq_false (by omega)]; exact hj3
    · exact Ev.ifn hX hj3
  | succ d ih =>
    intro j X hd hj hK
    have hj1 : j < (S.getD i []).length := by omega
    have hy := (h.row i hi).2 _ (getD_mem (d := 0) hj1)
    refine Ev.succ ?_; simp only [lockstepref06_Reach.l2]
    rw [rd_rbn _ _ hi, rdL_up, up_length]
    refine Ev.ifp (by omega) (Ev.ifp (by rw [rbn_length]; omega) ?_)
    by_cases hX : X i = true
    · refine Ev.ifp hX (Ev.ifp (by rw [up2_length]; omega) ?_)
      rw [decide_eq_true (by omega)]
      refine Ev.succ ?_; simp only [lockstepref06_Reach.j3]
      rw [rdL_up, up_length, rd_up]
      have hdr := drop_getD (S.getD i []) j 0 hj1
      have hmem : (S.getD i []).getD j 0 ∈ S.getD i [] := getD_mem hj1
      generalize (S.getD i []).getD j 0 = y at hy hdr hmem
      rw [hdr] at hK
      refine Ev.ifp trivial (Ev.ifp (by omega) (Ev.ifp (by rw [up2_length]; omega) (Ev.ifp (by omega) (Ev.ifp (by omega) ?_))))
      by_cases hw : (y : Int) = w
      · refine Ev.ifp hw ?_
        rw [wrap_nat (by omega)]
        refine ih (j + 1) X (by omega) (by omega) (fun Y hY hYi => hK Y hY (fun hXi z hz hzw => ?_))
        rcases List.mem_cons.mp hz with e | e
        · subst e; exact absurd hw hzw
        · exact hYi hXi z e hzw
      · refine Ev.ifn hw (Ev.ifp (by omega) (Ev.ifp (by rw [rbn_length]; omega) ?_))
        rw [wrap_nat (by omega), Int.toNat_natCast, set_rbn]
        have hs : Sub S w X (upd X y) := ⟨fun z hz => upd_true.mpr (.inr hz), fun C hC hXC z hz => by
          rcases upd_true.mp hz with e | e
          · subst e; exact hC i (hXC i hX) z hmem hw
          · exact hXC z e⟩
        refine ih (j + 1) (upd X y) (by omega) (by omega) (fun Y hY hYi => hK Y (hs.trans hY) (fun hXi z hz hzw => ?_))
        rcases List.mem_cons.mp hz with e | e
        · subst e; exact hY.1 z (upd_self _ _)
        · exact hYi (upd_true.mpr (.inr hXi)) z e hzw
    · refine Ev.ifn hX ?_
      refine Ev.succ ?_; simp only [lockstepref06_Reach.j3]
      refine Ev.ifn (by decide) ?_
      rw [wrap_nat (by omega)]; exact hK X (Sub.refl _ _ _) (fun hXi => absurd hXi hX)
theorem reach_l1 {S : List (List Nat)} (h : Gr S) (P : List (List Int)) (w : Int) (t : Nat) (ht : t < S.length) (v : List Bool) (d : Nat) :
    ∀ (i : Nat) (X : Sn), S.length - i = d → i ≤ S.length →
    (∀ Y, Sub S w X Y → (∀ a, i ≤ a → a < S.length → X a = true → ∀ y ∈ S.getD a [], (y : Int) ≠ w → Y y = true) → Ev (fun k => lockstepref06_Reach.l0 k w (rbn S.length Y) ((t + 1 : Nat) : Int) (up2 S) P) v) →
    Ev (fun k => lockstepref06_Reach.l1 k w (rbn S.length X) (t : Int) (i : Int) (up2 S) P) v := by
  have hle := h.le
  induction d with
  | zero =>
    intro i X hd hi hK
    refine Ev.succ ?_; simp only [lockstepref06_Reach.l1]
    refine Ev.ifn (by rw [rbn_length]; omega) ?_
    rw [wrap_nat (by omega)]
    exact hK X (Sub.refl _ _ _) (fun a h1 h2 => by omega)
  | succ d ih =>
    intro i X hd hi hK
    refine Ev.succ ?_; simp only [lockstepref06_Reach.l1]
    refine Ev.ifp (by rw [rbn_length]; omega) ?_
    refine reach_l2 h P w t i (by omega) v _ 0 X rfl (by omega) (fun Y hY hYi => ?_)
    refine ih (i + 1) Y (by omega) (by omega) (fun Z hZ hZi => hK Z (hY.trans hZ) (fun a h1 h2 hXa y hy hyw => ?_))
    by_cases e : a = i
    · subst e
      exact hZ.1 y (hYi hXa y (by simpa using hy) hyw)
    · exact hZi a (by omega) h2 (hY.1 a hXa) y hy hyw
noncomputable def rchb (S : List (List Nat)) (w : Int) (r : Nat) : Sn := fun z => @decide (Rch S w r z) (Classical.propDecidable _)
theorem rchb_true {S : List (List Nat)} {w : Int} {r z : Nat} : rchb S w r z = true ↔ Rch S w r z := by unfold rchb; exact @decide_eq_true_iff _ (Classical.propDecidable _)
theorem rch_closed (S : List (List Nat)) (w : Int) (r : Nat) : Closed S w (Rch S w r) := fun _ ha _ hy hw => .step ha hy hw
theorem closed_eq {S : List (List Nat)} {w : Int} {r : Nat} {X : Sn} (hr : X r = true) (hX : ∀ z, X z = true → Rch S w r z) (hc : Closed S w (fun z => X z = true)) : X = rchb S w r := by
  funext z
  have e : X z = true ↔ rchb S w r z = true := by
    rw [rchb_true]
    refine ⟨hX z, fun hz => ?_⟩
    induction hz with
    | base _ => exact hr
    | @step a y _ hy hw ih => exact hc a ih y hy hw
  cases h1 : X z <;> cases h2 : rchb S w r z
  · rfl
  · rw [h1, h2] at e; exact absurd (e.mpr rfl) (by decide)
  · rw [h1, h2] at e; exact absurd (e.mp rfl) (by decide)
  · rfl
theorem reach_l0 {S : List (List Nat)} (h : Gr S) (P : List (List Int)) (w : Int) (r : Nat) (hr : r < S.length) (d : Nat) :
    ∀ (t : Nat) (X : Sn), S.length - t = d → t ≤ S.length → X r = true → (∀ z, X z = true → Rch S w r z) → (Closed S w (fun z => X z = true) ∨ t + 1 + cnt S.length X ≤ S.length) →
    Ev (fun k => lockstepref06_Reach.l0 k w (rbn S.length X) (t : Int) (up2 S) P) (rbn S.length (rchb S w r)) := by
  have hle := h.le
  induction d with
  | zero =>
    intro t X hd ht hXr hX hI
    refine Ev.succ ?_; simp only [lockstepref06_Reach.l0]
    refine Ev.ifn (by rw [rbn_length]; omega) ?_
    rcases hI with hc | hc
    · rw [closed_eq hXr hX hc]; exact Ev.pure
    · omega
  | succ d ih =>
    intro t X hd ht hXr hX hI
    refine Ev.succ ?_; simp only [lockstepref06_Reach.l0]
    refine Ev.ifp (by rw [rbn_length]; omega) ?_
    refine reach_l1 h P w t (by omega) _ _ 0 X rfl (by omega) (fun Y hY hYa => ?_)
    refine ih (t + 1) Y (by omega) (by omega) (hY.1 r hXr) (hY.2 _ (rch_closed S w r) hX) ?_
    by_cases hc : Closed S w (fun z => X z = true)
    · refine .inl (fun a ha y hy hw => ?_)
      exact hY.1 y (hc a (hY.2 _ hc (fun _ hz => hz) a ha) y hy hw)
    · right
      rcases hI with hc' | hI
      · exact absurd hc' hc
      · have : ∃ a y, X a = true ∧ y ∈ S.getD a [] ∧ (y : Int) ≠ w ∧ X y = false := by
          refine Classical.byContradiction (fun hn => hc (fun a ha y hy hw => ?_))
          cases hq : X y with
          | true => exact hq
          | false => exact absurd ⟨a, y, ha, hy, hw, hq⟩ hn
        obtain ⟨a, y, ha, hy, hw, hq⟩ := this
        have haS := (hX a ha).lt h hr
        have := cnt_lt hY.1 ((h.row a haS).2 y hy) hq (hYa a (Nat.zero_le _) haS ha y hy hw)
        omega
theorem reach_ok {S : List (List Nat)} (h : Gr S) (P : List (List Int)) (w : Int) (r : Nat) (hr : r < S.length) : Ev (fun k => lockstepref06_Reach.f k (up2 S) P (r : Int) w) (rbn S.length (rchb S w r)) := by
  have hle := h.le
  unfold lockstepref06_Reach.f
  have e0 : List.replicate (((up2 S).length : Int)).toNat false = rbn S.length none' := by
    rw [up2_length, Int.toNat_natCast]
    apply List.ext_getElem
    · simp
    · intro j h1 h2; simp [rbn, none']
  refine Ev.ifp (by omega) (Ev.ifp (by rw [up2_length]; omega) ?_)
  rw [e0]
  simp only [Option.bind_some]
  by_cases hw : (r : Int) = w
  · refine Ev.ifp hw (Ev.pure.of_eq ?_)
    congr 1
    funext z
    cases hq : rchb S w r z with
    | false => rfl
    | true =>
      have h1 := rchb_true.mp hq
      exfalso
      induction h1 with
      | base h2 => exact h2 hw
      | step h1 _ _ ih => exact ih (rchb_true.mpr h1)
  · refine Ev.ifn hw (Ev.ifp (by omega) (Ev.ifp (by rw [rbn_length]; omega) ?_))
    rw [Int.toNat_natCast, set_rbn]
    have hu := cnt_upd (n := S.length) (s := none') hr rfl
    rw [cnt_none] at hu
    refine reach_l0 h P w r hr S.length 0 (upd none' r) (by omega) (by omega) (upd_self _ _) (fun z hz => ?_) (.inr (by omega))
    rcases upd_true.mp hz with e | e
    · subst e; exact .base hw
    · cases e
section
variable {S : List (List Nat)} {r : Nat} {at_ par : Nat → Nat}
theorem Gd.small (hD : Gd S r at_ par) : (dtl S r).length ≤ 1000 := by rw [dtl_length]; have := hD.gr.le; omega
theorem Gd.over_ev (hD : Gd S r at_ par) {a b : Nat} (ha : a < S.length) (hb : b < S.length) {v : Bool} (h : v = true ↔ Dm S r a b) : Ev (fun k => dom_Over.f k (dtl S r) (a : Int) (b : Int)) v :=
  (over_ok _ hD.small _ _).of_eq (hD.over_eq ha hb v h)
open Classical in
theorem Gd.over_ev' (hD : Gd S r at_ par) {a b : Nat} (ha : a < S.length) (hb : b < S.length) : Ev (fun k => dom_Over.f k (dtl S r) (a : Int) (b : Int)) (decide (Dm S r a b)) :=
  hD.over_ev ha hb decide_eq_true_iff
theorem Gd.meet_ev (hD : Gd S r at_ par) {a b : Nat} (ha : Rch S (-1) r a) (hb : Rch S (-1) r b) : ∃ m : Nat, Ev (fun k => dom_Meet.f k (dtl S r) (a : Int) (b : Int)) (m : Int) ∧ Dm S r m a ∧ Dm S r m b ∧ ∀ c, Dm S r c a → Dm S r c b → Dm S r c m := by
  obtain ⟨m, h1, h2⟩ := hD.meet ha hb
  exact ⟨m, (meet_ok _ hD.small _ _).of_eq h1, h2⟩
theorem Gd.meet_no_ev (hD : Gd S r at_ par) {a b : Nat} (ha : a < S.length) (hb : b < S.length) (h : ¬ (Rch S (-1) r a ∧ Rch S (-1) r b)) : Ev (fun k => dom_Meet.f k (dtl S r) (a : Int) (b : Int)) (-2) :=
  (meet_ok _ hD.small _ _).of_eq (hD.meet_no ha hb h)
end
theorem root_mod {a : Int} {n : Nat} (h : (Lit.int .u8 a).wf = true) (hn : 0 < n) : Int.tmod (wrap64 a) (n : Int) = ((a.toNat % n : Nat) : Int) ∧ a.toNat % n < n := by
  have h0 : 0 ≤ a ∧ a < 256 := by simp [Lit.wf, IntKind.min, IntKind.max, IntKind.signed, IntKind.bits] at h; omega
  refine ⟨?_, Nat.mod_lt _ hn⟩
  rw [wrap_id (by omega) (by omega)]
  obtain ⟨m, rfl⟩ : ∃ m : Nat, a = (m : Int) := ⟨a.toNat, by omega⟩
  rw [Int.toNat_natCast, Int.ofNat_tmod]
theorem order_nil (r : Int) : Ev (fun k => graph_Order.f k [] [] r) [] := order_no r (may_bad (s := []) (by simp) (by simp) (by decide) [])
theorem tree_nil (r : Int) : Ev (fun k => dom_Tree.f k [] [] r) [] := tree_no (order_nil r)

theorem has_l0 (x : Int) (d : Nat) : ∀ (i : Nat) (a : List Int), a.length ≤ big → i ≤ a.length → a.length - i = d → Ev (fun k => lockstepref06_Has.l0 k a x (i : Int)) (decide (x ∈ a.drop i)) := by
  induction d with
  | zero =>
    intro i a hb hi hd
    refine Ev.succ ?_; simp only [lockstepref06_Has.l0]
    refine Ev.ifn (by omega) ?_
    rw [List.drop_of_length_le (by omega)]
    exact Ev.pure.of_eq (by simp)
  | succ d ih =>
    intro i a hb hi hd
    have hbb : big = 9223372036854775807 := rfl
    refine Ev.succ ?_; simp only [lockstepref06_Has.l0]
    refine Ev.ifp (by omega) (Ev.ifp (by omega) ?_)
    rw [show rd a (i : Int) = a.getD i 0 by simp [rd]]
    rw [drop_getD a i 0 (by omega)]
    by_cases h : a.getD i 0 = x
    · exact Ev.ifp h (Ev.pure.of_eq (by rw [h]; simp))
    · refine Ev.ifn h ?_
      rw [wrap_nat (by omega)]
      refine (ih (i + 1) a hb (by omega) (by omega)).of_eq ?_
      by_cases hm : x ∈ a.drop (i + 1)
      · rw [decide_eq_true hm, decide_eq_true (List.mem_cons_of_mem _ hm)]
      · rw [decide_eq_false hm, decide_eq_false (fun hc => by
          rcases List.mem_cons.mp hc with e | e
          · exact h e.symm
          · exact hm e)]
theorem has_ok (a : List Int) (x : Int) (hb : a.length ≤ big) : Ev (fun k => lockstepref06_Has.f k a x) (decide (x ∈ a)) := by
  unfold lockstepref06_Has.f
  simpa using has_l0 x a.length 0 a hb (by omega) (by omega)
theorem has_up (l : List Nat) (x : Nat) (hb : l.length ≤ big) : Ev (fun k => lockstepref06_Has.f k (up l) (x : Int)) (decide (x ∈ l)) := by
  refine (has_ok (up l) x (by rw [up_length]; exact hb)).of_eq ?_
  have e : (x : Int) ∈ up l ↔ x ∈ l := by
    simp only [up, List.mem_map]
    constructor
    · rintro ⟨y, hy, e⟩; rw [show x = y by omega]; exact hy
    · intro h; exact ⟨x, h, rfl⟩
  by_cases h : x ∈ l
  · rw [decide_eq_true h, decide_eq_true (e.mpr h)]
  · rw [decide_eq_false h, decide_eq_false (fun hc => h (e.mp hc))]

def mp (S : List (List Nat)) (x y j : Nat) : Nat → Bool := fun k => decide (k ∈ S.getD j []) || (decide (j = x) && decide (k = y))
/-- A graph with a way on more. -/
def mw (S : List (List Nat)) (x y : Nat) : List (List Nat) := (List.range S.length).map fun j => (List.range S.length).filter (mp S x y j)
/-- The rows told so far. -/
def mwI (S : List (List Nat)) (x y i m : Nat) : List (List Nat) := (List.range S.length).map fun j => if j < i then (List.range S.length).filter (mp S x y j) else if j = i then (List.range m).filter (mp S x y j) else []
section
variable {S : List (List Nat)} {x y : Nat}
theorem gr_mw (hG : Gr S) : Gr (mw S x y) := by
  have e : (mw S x y).length = S.length := by simp [mw]
  refine ⟨by rw [e]; exact hG.pos, by rw [e]; exact hG.le, fun i hi => ?_⟩
  rw [e] at hi ⊢
  rw [show (mw S x y).getD i [] = (List.range S.length).filter (mp S x y i) from getD_map_range _ _ _ _ hi]
  exact ⟨List.pairwise_lt_range.filter _, fun z hz => List.mem_range.mp (List.mem_filter.mp hz).1⟩
theorem mw_length : (mw S x y).length = S.length := by simp [mw]
theorem mw_mem (hG : Gr S) {a b : Nat} (ha : a < S.length) (h : b ∈ S.getD a []) : b ∈ (mw S x y).getD a [] := by
  rw [show (mw S x y).getD a [] = (List.range S.length).filter (mp S x y a) from getD_map_range _ _ _ _ ha]
  refine List.mem_filter.mpr ⟨List.mem_range.mpr ((hG.row a ha).2 b h), ?_⟩
  unfold mp
  rw [decide_eq_true h]; rfl
theorem mw_rch (hG : Gr S) {w : Int} {a b : Nat} (ha : a < S.length) (h : Rch S w a b) : Rch (mw S x y) w a b := by
  induction h with
  | base h => exact .base h
  | @step c z hc hz hw ih => exact .step ih (mw_mem hG (hc.lt hG ha) hz) hw
theorem mwI_row {i m : Nat} (hi : i < S.length) : (mwI S x y i m).getD i [] = (List.range m).filter (mp S x y i) := by
  rw [show (mwI S x y i m).getD i [] = _ from getD_map_range _ _ _ _ hi, if_neg (by omega), if_pos rfl]
theorem mwI_next {i : Nat} : mwI S x y i S.length = mwI S x y (i + 1) 0 := by
  refine List.map_congr_left (fun j _ => ?_)
  by_cases e1 : j < i
  · rw [if_pos e1, if_pos (by omega)]
  · by_cases e2 : j = i
    · subst e2; rw [if_neg e1, if_pos rfl, if_pos (by omega)]
    · rw [if_neg e1, if_neg e2, if_neg (by omega)]
      split <;> rfl
theorem mwI_skip {i m : Nat} (h : mp S x y i m = false) : mwI S x y i (m + 1) = mwI S x y i m := by
  refine List.map_congr_left (fun j _ => ?_)
  by_cases e1 : j < i
  · rw [if_pos e1, if_pos e1]
  · by_cases e2 : j = i
    · subst e2
      rw [if_neg e1, if_neg e1, if_pos rfl, if_pos rfl, List.range_succ, List.filter_append, List.filter_cons_of_neg (by rw [h]; decide), List.filter_nil, List.append_nil]
    · rw [if_neg e1, if_neg e1, if_neg e2, if_neg e2]
theorem mwI_take {i m : Nat} (h : mp S x y i m = true) : (up2 (mwI S x y i m)).set i (up ((List.range m).filter (mp S x y i)) ++ [(m : Int)]) = up2 (mwI S x y i (m + 1)) := by
  unfold up2 mwI
  rw [← up_snoc, ← List.map_set]
  congr 1
  refine set_map_range _ _ _ _ _ ?_ (fun j hj => ?_)
  · rw [if_neg (by omega), if_pos rfl, List.range_succ, List.filter_append, List.filter_cons_of_pos h, List.filter_nil]
  · by_cases e1 : j < i
    · rw [if_pos e1, if_pos e1]
    · rw [if_neg e1, if_neg e1, if_neg hj, if_neg hj]
theorem more_l1 (hG : Gr S) {i : Nat} (hi : i < S.length) (H : Ev (fun k => locksteplaw07_DomMore.l0 k (up2 S) (x : Int) (y : Int) (up2 (mwI S x y (i + 1) 0)) ((i + 1 : Nat) : Int) (up2 S) (up2 (pr S))) true) (d : Nat) : ∀ m, m ≤ S.length → S.length - m = d →
    Ev (fun k => locksteplaw07_DomMore.l1 k (up2 S) (x : Int) (y : Int) (up2 (mwI S x y i m)) (i : Int) (m : Int) (up2 S) (up2 (pr S))) true := by
  have hle := hG.le
  have hbb : big = 9223372036854775807 := rfl
  have hrl := gr_len hG hi
  induction d with
  | zero =>
    intro m hm hd
    obtain rfl : m = S.length := by omega
    refine Ev.succ ?_; simp only [locksteplaw07_DomMore.l1]
    rw [wrap_nat (i := i) (by omega), mwI_next]
    exact Ev.ifn (by rw [up2_length]; omega) H
  | succ d ih =>
    intro m hm hd
    have hn := ih (m + 1) (by omega) (by omega)
    have hfl := List.length_filter_le (mp S x y i) (List.range m)
    rw [List.length_range] at hfl
    have hlen : (up2 (mwI S x y i m)).length = S.length := by rw [up2_length]; simp [mwI]
    have htake : mp S x y i m = true → Ev (fun k => if (i : Int) < ((up2 (mwI S x y i m)).length : Int) then (if (up ((List.range m).filter (mp S x y i))).length < 17592186044416 then (locksteplaw07_DomMore.l1 k (up2 S) (x : Int) (y : Int) ((up2 (mwI S x y i m)).set (i : Int).toNat (up ((List.range m).filter (mp S x y i)) ++ [(m : Int)])) (i : Int) ((m + 1 : Nat) : Int) (up2 S) (up2 (pr S))) else none) else none) true := by
      intro h
      rw [Int.toNat_natCast, mwI_take h]
      exact Ev.ifp (by omega) (Ev.ifp (by rw [up_length]; omega) hn)
    have hskip : mp S x y i m = false → Ev (fun k => locksteplaw07_DomMore.l1 k (up2 S) (x : Int) (y : Int) (up2 (mwI S x y i m)) (i : Int) ((m + 1 : Nat) : Int) (up2 S) (up2 (pr S))) true := by
      intro h
      rw [mwI_skip h] at hn; exact hn
    refine Ev.succ ?_; simp only [locksteplaw07_DomMore.l1]
    rw [rdL_up, rdL_up, mwI_row hi, wrap_nat (i := m) (by omega)]
    refine Ev.ifp (by rw [up2_length]; omega) (Ev.ifp (by omega) (Ev.ifp (by rw [up2_length]; omega) (Ev.bind (has_up _ m (by omega)) ?_)))
    by_cases h1 : m ∈ S.getD i []
    · exact Ev.ifp (decide_eq_true h1) (htake (by unfold mp; rw [decide_eq_true h1]; rfl))
    · refine Ev.ifn (by rw [decide_eq_false h1]; decide) ?_
      by_cases h2 : i = x
      · refine Ev.ifp (by omega) ?_
        by_cases h3 : m = y
        · exact Ev.ifp (by omega) (htake (by unfold mp; rw [decide_eq_true h2, decide_eq_true h3]; simp))
        · exact Ev.ifn (by omega) (hskip (by unfold mp; rw [decide_eq_false h1, decide_eq_false h3]; simp))
      · exact Ev.ifn (by omega) (hskip (by unfold mp; rw [decide_eq_false h1, decide_eq_false h2]; simp))
open Classical in
theorem more_l3 {at_ par : Nat → Nat} {at2 par2 : Nat → Nat} (hS : Gd S 0 at_ par) (hM : Gd (mw S x y) 0 at2 par2) {i : Nat} (hi : i < S.length)
    (H : Ev (fun k => locksteplaw07_DomMore.l2 k (up2 S) 0 (dtl S 0) (dtl (mw S x y) 0) (rbn S.length (rchb S (-1) 0)) ((i + 1 : Nat) : Int)) true) (d : Nat) : ∀ m, m ≤ S.length → S.length - m = d →
    Ev (fun k => locksteplaw07_DomMore.l3 k (up2 S) 0 (dtl S 0) (dtl (mw S x y) 0) (rbn S.length (rchb S (-1) 0)) (i : Int) (m : Int)) true := by
  have hG := hS.gr
  have hle := hG.le
  induction d with
  | zero =>
    intro m hm hd
    refine Ev.succ ?_; simp only [locksteplaw07_DomMore.l3]
    rw [wrap_nat (i := i) (by omega)]
    exact Ev.ifn (by rw [up2_length]; omega) H
  | succ d ih =>
    intro m hm hd
    have hml : m < S.length := by omega
    have hn := ih (m + 1) (by omega) (by omega)
    refine Ev.succ ?_; simp only [locksteplaw07_DomMore.l3]
    rw [rd_rbn _ _ hml, wrap_nat (i := m) (by omega)]
    refine Ev.ifp (by rw [up2_length]; omega) (Ev.ifp (by omega) (Ev.ifp (by rw [rbn_length]; omega) ?_))
    by_cases h1 : rchb S (-1) 0 m = true
    · refine Ev.ifp h1 (Ev.bind (hM.over_ev' (a := i) (b := m) (by rw [mw_length]; exact hi) (by rw [mw_length]; exact hml)) ?_)
      by_cases h2 : Dm (mw S x y) 0 i m
      · refine Ev.ifp (decide_eq_true h2) (Ev.bind (hS.over_ev' hi hml) (Ev.ifp (decide_eq_true ?_) hn))
        exact ⟨rchb_true.mp h1, fun hc => h2.2 (mw_rch hG hG.pos hc)⟩
      · exact Ev.ifn (by rw [decide_eq_false h2]; decide) hn
    · exact Ev.ifn h1 hn
theorem more_l2 {at_ par : Nat → Nat} {at2 par2 : Nat → Nat} (hS : Gd S 0 at_ par) (hM : Gd (mw S x y) 0 at2 par2) (d : Nat) : ∀ i, i ≤ S.length → S.length - i = d →
    Ev (fun k => locksteplaw07_DomMore.l2 k (up2 S) 0 (dtl S 0) (dtl (mw S x y) 0) (rbn S.length (rchb S (-1) 0)) (i : Int)) true := by
  induction d with
  | zero =>
    intro i hi hd
    refine Ev.succ ?_; simp only [locksteplaw07_DomMore.l2]
    exact Ev.ifn (by rw [up2_length]; omega) Ev.pure
  | succ d ih =>
    intro i hi hd
    refine Ev.succ ?_; simp only [locksteplaw07_DomMore.l2]
    exact Ev.ifp (by rw [up2_length]; omega) (more_l3 hS hM (by omega) (ih (i + 1) (by omega) (by omega)) _ 0 (Nat.zero_le _) rfl)
theorem more_l0 (hG : Gr S) (d : Nat) : ∀ i, i ≤ S.length → S.length - i = d →
    Ev (fun k => locksteplaw07_DomMore.l0 k (up2 S) (x : Int) (y : Int) (up2 (mwI S x y i 0)) (i : Int) (up2 S) (up2 (pr S))) true := by
  induction d with
  | zero =>
    intro i hi hd
    obtain rfl : i = S.length := by omega
    have hM := gr_mw (x := x) (y := y) hG
    obtain ⟨at_, par, hS⟩ := gd_ex hG hG.pos
    obtain ⟨at2, par2, hM2⟩ := gd_ex hM hM.pos
    have e : mwI S x y S.length 0 = mw S x y := by
      refine List.map_congr_left (fun j hj => ?_)
      rw [if_pos (List.mem_range.mp hj)]
    rw [e]
    refine Ev.succ ?_; simp only [locksteplaw07_DomMore.l0]
    refine Ev.ifn (by rw [up2_length]; omega) (Ev.bind (make_ok hM) (Ev.bind (tree_ok hG (r := 0) hG.pos) (Ev.bind (tree_ok hM (r := 0) hM.pos) (Ev.bind (reach_ok hG _ (-1) 0 hG.pos) ?_))))
    exact more_l2 hS hM2 _ 0 (Nat.zero_le _) rfl
  | succ d ih =>
    intro i hi hd
    refine Ev.succ ?_; simp only [locksteplaw07_DomMore.l0]
    exact Ev.ifp (by rw [up2_length]; omega) (more_l1 hG (by omega) (ih (i + 1) (by omega) (by omega)) _ 0 (Nat.zero_le _) rfl)
end
theorem awake07 : Ev (fun k => locksteplaw07_awake.f k) true := Ev.of_at (fun k => locksteplaw07_awake.mono k) (show locksteplaw07_awake.f 100 = some true by decide +kernel)
theorem domMore : locksteplaw07_DomMore.Pure := by
  intro l0 a1 a2 hrow w1 w2
  refine Ev.at ?_
  have hbb : big = 9223372036854775807 := rfl
  have hml : maxLen ≤ big := by decide
  have hb : l0.length ≤ big := Nat.le_trans hrow.1 hml
  unfold locksteplaw07_DomMore.f
  refine Ev.bind awake07 (Ev.ifp rfl ?_)
  have ht : Ev (fun k => locksteplaw07_DomMore.j0 k l0 a1 a2 true) true := by
    refine Ev.succ ?_; simp only [locksteplaw07_DomMore.j0]; exact Ev.ifp trivial Ev.pure
  by_cases h16 : (l0.length : Int) > 12
  · exact Ev.ifp h16 ht
  · refine Ev.ifn h16 ?_
    by_cases h0 : (l0.length : Int) = 0
    · exact Ev.ifp h0 ht
    · refine Ev.ifn h0 ?_
      obtain ⟨b, h1, h2⟩ := small_ev l0 hb
      refine Ev.bind h1 ?_
      cases b with
      | false => exact ht
      | true =>
        have hr : ∀ l ∈ l0, l.length ≤ big := fun l hl => by have := (h2 rfl).2 l hl; omega
        refine Ev.succ ?_; simp only [locksteplaw07_DomMore.j0]
        refine Ev.ifn (by decide) ?_
        cases hg : goodb l0 with
        | false => exact Ev.bind (make_bad hb hr hg) (Ev.ifn (by decide) Ev.pure)
        | true =>
          obtain ⟨S, h, rfl⟩ := good_gr hg
          have hpos := h.pos
          obtain ⟨e1, e2⟩ := root_mod w1 hpos
          obtain ⟨e3, e4⟩ := root_mod w2 hpos
          rw [up2_length] at h16
          refine Ev.bind (make_ok h) (Ev.ifp rfl ?_)
          rw [up2_length, e1, e3]
          refine Ev.ifn (by omega) (Ev.ifp (by omega) (Ev.ifp (by omega) ?_))
          have h3 := more_l0 (x := a1.toNat % S.length) (y := a2.toNat % S.length) h _ 0 (Nat.zero_le _) rfl
          have e : up2 (mwI S (a1.toNat % S.length) (a2.toNat % S.length) 0 0) = List.replicate S.length [] := by
            apply List.ext_getElem
            · simp [mwI]
            · intro j j1 j2
              simp [mwI, up2, up]
          rw [e] at h3
          rw [Int.toNat_natCast]
          exact h3
end Go.Proofs.Ytoekeknfeinphaa.GP
namespace Go.Proofs.Ytoekeknfeinphaa.Pure
theorem DomMore : Go.Proofs.Ytoekeknfeinphaa.G.locksteplaw07_DomMore.Pure := GP.domMore
end Go.Proofs.Ytoekeknfeinphaa.Pure
namespace Go.Proofs.Ytoekeknfeinphaa.domMore
open Go.Proofs.YtoekeknfeinphaaH Go.Proofs.Ytoekeknfeinphaa.G
open Go.ChangeShapes Go.WideShapes Go.ChangeAt Go.RowKit
open Go.ChangeMaps (open_string shut_string)
set_option linter.unusedVariables false
theorem own : ownKnob Try.prog.godebug = none := by kernel_rfl
theorem laidOut : laidOutB Try.prog = true := by kernel_rfl
def IsRow (k : IntKind) (w : World) (a : Option Addr) (len cap : Nat) (zs : List Int) : Prop :=
  (a = none ∧ len = 0 ∧ cap = 0 ∧ zs = []) ∨
  ∃ x, a = some x ∧ len ≤ cap ∧ cap ≤ maxLen ∧ zs.length = cap ∧ (∀ i, i < zs.length → w.cell? (x.add i) = some (.int k (zs.getD i 0))) ∧ ∀ n ∈ zs, (Lit.int k n).wf = true
set_option maxRecDepth 100000 in
theorem lifted (os : Os) (started : os.Started) (H : Type) (enc : TypeId × Value → H) :
    ReturnsInHanded {} Try.checked os 3 .any (Rows.domMoreSpec.pre6 enc Try.prog Try.f3 Rows.domMoreRow.domain false) (Rows.domMoreSpec.post enc Try.prog Try.f3 false true false false) := by
  refine returnsInHanded_of_change_sized (C := Try.checked) own started (by kernel_rfl) Try.func3
    (ChangeSpec.witness6 (enc := enc) (C := Try.checked) false ⟨#[], #[.slice none 0 0, .int .u8 0, .int .u8 0], []⟩ 8 (by kernel_rfl) (by kernel_rfl) (by kernel_rfl) (by kernel_rfl)) ?_
  intro W base args ds gs before hval0 hW hcnd hsz0 _
  have hsz : (DataW.weightsEach Try.prog (Try.f3.params.toList ++ Rows.domMoreSpec.plain.varTypes Try.prog) (ds ++ gs)).all (· ≤ reachBytes) = true := hsz0
  have hval : ∀ (j : Nat) t v, Try.f3.params[j]? = some t → args[j]? = some v → Value.okWide Try.prog W .any base t v := hval0
  have hW' := hW
  obtain ⟨p, q, hA0, hV, rfl, hfz, hnd⟩ := hW
  have hA : DataW.TrodAll enc Try.prog W 0 (fun _ => true) true Try.f3.params.toList args.toList ds p := hA0
  rw [Try.params3] at hA hval hsz
  obtain ⟨v0, vs0, d0, ds0, p0, q0, hargs, rfl, rfl, h0, r0⟩ := trodAll_cons hA
  obtain ⟨v1, vs1, d1, ds1, p1, q1, rfl, rfl, rfl, h1, r1⟩ := trodAll_cons r0
  obtain ⟨v2, vs2, d2, ds2, p2, q2, rfl, rfl, rfl, h2, r2⟩ := trodAll_cons r1
  obtain ⟨rfl, rfl, rfl⟩ := trodAll_nil r2
  obtain rfl : args = #[v0, v1, v2] := by cases args; simp_all
  obtain ⟨rfl, rfl⟩ := trodVars_none hV
  obtain ⟨a0, len0, cap0, rfl⟩ := okWide_slice Try.underlying22 (hval 0 22 v0 rfl rfl)
  have k0 := h0
  have lt0 : ∀ x ∈ p0, x.block < W.heap.size := by obtain ⟨m, hm⟩ := k0; exact DataW.trod_lt m _ _ _ hm
  obtain ⟨l0, rfl, w0, y0, m0⟩ := C_of_rows Try.underlying22 Try.underlying31 Try.underlying3 (by kernel_rfl) (by kernel_rfl) h0
  obtain ⟨a1, rfl, rfl, rfl, w1⟩ := open_int Try.underlying5 (hval 1 5 v1 rfl rfl) h1
  obtain ⟨a2, rfl, rfl, rfl, w2⟩ := open_int Try.underlying5 (hval 2 5 v2 rfl rfl) h2
  clear hA0 hval0 hsz0 hsz
  refine (G.locksteplaw07_DomMore.walk Pure.DomMore a0 cap0 l0 a1 a2 W w0 y0 m0 w1 w2).mono fun e W' ⟨he, bel⟩ => ?_
  subst he
  exact ⟨_, rfl, _, _, _, [], _, [], hW', trodAll_mk1 (shut_bool Try.underlying4 _), (trodAll_cons_mk (Below.trod laidOut (by kernel_rfl) (of_decide_eq_true (by kernel_rfl)) k0 bel lt0) (trodAll_cons_mk (shut_int Try.underlying5 w1) (trodAll_cons_mk (shut_int Try.underlying5 w2) trodAll_mk0))), rfl, bel.frame _, fun h => by cases h⟩
theorem over : Rows.domMoreRow.holds Try.pinned (OpenSpec.ofChange Rows.domMoreSpec) :=
  OpenClaim.holds_of_wide 3 Try.f3 rfl rfl rfl rfl rfl rfl rfl ⟨rfl, rfl, rfl, rfl, rfl⟩ rfl rfl rfl rfl rfl (by kernel_rfl) Try.func3 (by kernel_rfl)
    (of_decide_eq_true (by kernel_rfl)) (by unfold Func.isWrapper; first | (rw [if_pos (by decide +kernel)]; kernel_rfl) | (rw [if_neg (by decide +kernel)]; exact ⟨rfl, rfl⟩))
    (fun os started H enc _ => lifted os started H enc)
theorem proved : Rows.DomMoreSaid := over
#print axioms proved
end Go.Proofs.Ytoekeknfeinphaa.domMore
namespace Go.Proofs.Ytoekeknfeinphaa
/-- The row, under a short name, for the claim. -/
theorem domMore_holds : Rows.DomMoreSaid := domMore.proved
end Go.Proofs.Ytoekeknfeinphaa
