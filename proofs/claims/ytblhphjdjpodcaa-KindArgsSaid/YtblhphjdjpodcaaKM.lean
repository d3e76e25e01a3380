/- Plain laws of kind.Shape, takes, May, Takes, Gives. No conditions beyond each theorem's own. -/
import Derived.Test.YtblhphjdjpodcaaQx10
import Derived.Test.YtblhphjdjpodcaaQx24
import Derived.Test.YtblhphjdjpodcaaQx12
namespace Go.Proofs.Ytblhphjdjpodcaa.KP
open Go.RowKit Go.Proofs.Ytblhphjdjpodcaa.Q Go.Proofs.YtblhphjdjpodcaaW.PrintWords
set_option linter.unusedSimpArgs false
set_option linter.unusedVariables false

/-- With enough rounds the answer is v. -/
def Ev {α : Type} (f : Nat → Option α) (v : α) : Prop := ∃ K, ∀ k, K ≤ k → f k = some v
theorem Ev.succ {α : Type} {f : Nat → Option α} {v : α} (h : Ev (fun k => f (k + 1)) v) : Ev f v := by
  obtain ⟨K, h⟩ := h
  refine ⟨K + 1, fun k hk => ?_⟩
  obtain ⟨m, rfl⟩ : ∃ m, k = m + 1 := ⟨k - 1, by omega⟩
  exact h m (by omega)
theorem Ev.bind {α β : Type} {g : Nat → Option α} {h : Nat → α → Option β} {a : α} {r : β} (h1 : Ev g a) (h2 : Ev (fun k => h k a) r) : Ev (fun k => (g k).bind (fun t => h k t)) r := by
  obtain ⟨K1, h1⟩ := h1
  obtain ⟨K2, h2⟩ := h2
  refine ⟨K1 + K2, fun k hk => ?_⟩
  simp only [h1 k (by omega), Option.bind_some]
  exact h2 k (by omega)
theorem Ev.pure {α : Type} {v : α} : Ev (fun _ => some v) v := ⟨0, fun _ _ => rfl⟩
theorem Ev.ifp {α : Type} {c : Prop} [Decidable c] {a b : Nat → Option α} {v : α} (h : c) (H : Ev a v) : Ev (fun k => if c then a k else b k) v := by
  simp only [if_pos h]; exact H
theorem Ev.ifn {α : Type} {c : Prop} [Decidable c] {a b : Nat → Option α} {v : α} (h : ¬ c) (H : Ev b v) : Ev (fun k => if c then a k else b k) v := by
  simp only [if_neg h]; exact H
theorem Ev.at {α : Type} {f : Nat → Option α} {v : α} (h : Ev f v) : ∃ k, f k = some v := by
  obtain ⟨K, h⟩ := h; exact ⟨K, h K (Nat.le_refl _)⟩
theorem Ev.of_eq {α : Type} {f : Nat → Option α} {v w : α} (h : Ev f v) (e : v = w) : Ev f w := e ▸ h
theorem Ev.of_at {α : Type} {f : Nat → Option α} {v : α} (m : ∀ k, LeO (f k) (f (k + 1))) {K : Nat} (h : f K = some v) : Ev f v := by
  refine ⟨K, fun k hk => ?_⟩
  obtain ⟨d, rfl⟩ : ∃ d, k = K + d := ⟨k - K, by omega⟩
  clear hk
  induction d with
  | zero => exact h
  | succ d ih => exact m _ _ ih

theorem wrap_nat {i : Nat} (h : i < 9223372036854775807) : wrap64 ((i : Int) + 1) = ((i + 1 : Nat) : Int) := by unfold wrap64; omega
theorem wrap_id {x : Int} (h : -9223372036854775808 ≤ x) (h' : x ≤ 9223372036854775807) : wrap64 x = x := by unfold wrap64; omega


/-! #### shapes -/
def wm (b : Int) : Bool := b == 1 || b == 8 || b == 16 || b == 32 || b == 64
theorem wm_ok (b : Int) : word_May.f b = some (wm b) := by
  unfold word_May.f wm
  by_cases h1 : b = 1
  · simp [h1]
  by_cases h2 : b = 8
  · simp [h2]
  by_cases h3 : b = 16
  · simp [h3]
  by_cases h4 : b = 32
  · simp [h4]
  by_cases h5 : b = 64
  · simp [h5]
  simp [h1, h2, h3, h4, h5]
theorem wm_cases {b : Int} (h : wm b = true) : b = 1 ∨ b = 8 ∨ b = 16 ∨ b = 32 ∨ b = 64 := by
  simpa [wm, or_assoc] using h
def shp (b n : Int) : Bool := wm b && (n == 1 || ((n == 2 || n == 4 || n == 8 || n == 16) && decide (8 ≤ b) && decide (b * n ≤ 128)))
theorem shape_ok (b n : Int) : kind_Shape.f b n = some (shp b n) := by
  unfold kind_Shape.f shp
  rw [wm_ok, Option.bind_some]
  cases hb : wm b with
  | false => simp
  | true =>
    simp only [if_true, Bool.true_and]
    have hw : ∀ m : Int, 0 ≤ m → m ≤ 16 → wrap64 (b * m) = b * m := fun m h0 h1 => by
      rcases wm_cases hb with h | h | h | h | h <;> subst h <;> exact wrap_id (by omega) (by omega)
    by_cases h1 : n = 1
    · simp [h1]
    by_cases h2 : n = 2
    · subst h2; rw [hw 2 (by omega) (by omega)]; by_cases h8 : b ≥ 8 <;> simp [h8]
    by_cases h3 : n = 4
    · subst h3; rw [hw 4 (by omega) (by omega)]; by_cases h8 : b ≥ 8 <;> simp [h8]
    by_cases h4 : n = 8
    · subst h4; rw [hw 8 (by omega) (by omega)]; by_cases h8 : b ≥ 8 <;> simp [h8]
    by_cases h5 : n = 16
    · subst h5; rw [hw 16 (by omega) (by omega)]; by_cases h8 : b ≥ 8 <;> simp [h8]
    simp [h1, h2, h3, h4, h5]
theorem shp_cases {b n : Int} (h : shp b n = true) : (b = 1 ∨ b = 8 ∨ b = 16 ∨ b = 32 ∨ b = 64) ∧ (n = 1 ∨ ((n = 2 ∨ n = 4 ∨ n = 8 ∨ n = 16) ∧ 8 ≤ b ∧ b * n ≤ 128)) := by
  unfold shp at h
  rw [Bool.and_eq_true] at h
  refine ⟨wm_cases h.1, ?_⟩
  have h2 := h.2
  simp [or_assoc, and_assoc] at h2
  exact h2

/-! #### takes -/
def cutv (a b : Int) : Int := shr .u64 (shl .u64 a (wrap64 (64 - b))) (wrap64 (64 - b))
theorem cut_ok {b : Int} (a : Int) (h : wm b = true) : word_Cut.f a b = some (cutv a b) := by
  unfold word_Cut.f cutv
  rw [wm_ok, h, Option.bind_some, if_pos rfl, if_pos]
  rcases wm_cases h with h | h | h | h | h <;> subst h <;> decide +kernel
def tk (c b n i : Int) : List S37 × Bool :=
  if c = 0 then ([], cutv i b == i)
  else if c = 1 ∨ c = 2 ∨ c = 3 ∨ c = 5 ∨ c = 6 ∨ c = 7 ∨ c = 8 ∨ c = 9 then ([⟨b, n⟩, ⟨b, n⟩], i == 0)
  else if c = 4 ∨ c = 10 ∨ c = 11 ∨ c = 12 then ([⟨b, n⟩, ⟨b, n⟩], i == 0 && n == 1)
  else if c = 13 then ([⟨1, 1⟩, ⟨b, n⟩, ⟨b, n⟩], i == 0)
  else if c = 14 then ([⟨wrap64 (mn i 128), 1⟩], n == 1 && (decide (i < IntKind.u64.wrap b) && wm (wrap64 i)))
  else if c = 15 then ([⟨wrap64 (mn i 128), 1⟩], n == 1 && (decide (i > IntKind.u64.wrap b) && (decide (i ≤ 64) && wm (wrap64 i))))
  else if c = 16 then ([⟨64, 1⟩], i == 0 && decide (b ≥ 8))
  else if c = 17 then ([⟨64, 1⟩, ⟨b, n⟩], i == 0 && decide (b ≥ 8))
  else if c = 18 ∨ c = 19 then ([⟨1, 1⟩, ⟨64, 1⟩, ⟨b, n⟩], i == 0 && (n == 1 && decide (b ≥ 8)))
  else if c = 20 then ([⟨1, 1⟩, ⟨b, n⟩, ⟨b, n⟩, ⟨b, n⟩], i == 0 && n == 1)
  else if c = 21 then (List.replicate n.toNat ⟨b, 1⟩, i == 0 && !(n == 1))
  else if c = 22 then ([⟨b, n⟩], !(n == 1) && decide (i < IntKind.u64.wrap n))
  else ([], false)
theorem takes_ok {b n : Int} (c d i : Int) (l : List Int) (h : shp b n = true) : kind_takes.f c b n d l i = some (tk c b n i) := by
  have hb : wm b = true := by unfold shp at h; rw [Bool.and_eq_true] at h; exact h.1
  have hn := (shp_cases h).2
  unfold kind_takes.f tk
  by_cases h0 : c = 0
  · simp only [if_pos h0, cut_ok i hb, Option.bind_some]
  simp only [if_neg h0]
  by_cases h1 : c = 1 ∨ c = 2 ∨ c = 3 ∨ c = 5 ∨ c = 6 ∨ c = 7 ∨ c = 8 ∨ c = 9
  · simp only [if_pos h1]
  simp only [if_neg h1]
  by_cases h2 : c = 4 ∨ c = 10 ∨ c = 11 ∨ c = 12
  · simp only [if_pos h2]
  simp only [if_neg h2]
  by_cases h3 : c = 13
  · simp only [if_pos h3]
  simp only [if_neg h3]
  by_cases h4 : c = 14
  · simp only [if_pos h4, wm_ok, Option.bind_some]
    by_cases hx : n = 1 ∧ i < IntKind.u64.wrap b
    · rw [if_pos hx]; simp [hx.1, hx.2]
    · rw [if_neg hx]
      by_cases hy : n = 1
      · have : ¬ i < IntKind.u64.wrap b := fun e => hx ⟨hy, e⟩
        simp [this]
      · simp [hy]
  simp only [if_neg h4]
  by_cases h5 : c = 15
  · simp only [if_pos h5, wm_ok, Option.bind_some]
    by_cases hx : n = 1 ∧ i > IntKind.u64.wrap b ∧ i ≤ 64
    · rw [if_pos hx]; simp [hx.1, hx.2.2, show IntKind.u64.wrap b < i from hx.2.1]
    · rw [if_neg hx]
      by_cases hy : n = 1
      · by_cases hz : i > IntKind.u64.wrap b
        · have : ¬ i ≤ 64 := fun e => hx ⟨hy, hz, e⟩
          simp [this]
        · have : ¬ IntKind.u64.wrap b < i := hz
          simp [this]
      · simp [hy]
  simp only [if_neg h5]
  by_cases h6 : c = 16
  · simp only [if_pos h6]
  simp only [if_neg h6]
  by_cases h7 : c = 17
  · simp only [if_pos h7]
  simp only [if_neg h7]
  by_cases h8 : c = 18 ∨ c = 19
  · simp only [if_pos h8]
  simp only [if_neg h8]
  by_cases h9 : c = 20
  · simp only [if_pos h9]
  simp only [if_neg h9]
  by_cases h10 : c = 21
  · simp only [if_pos h10]
    unfold slices_Repeat_2_int_2_int.f
    rw [if_pos ⟨rfl, by omega, by omega⟩, Option.bind_some]; rfl
  simp only [if_neg h10]
  by_cases h11 : c = 22
  · simp only [if_pos h11]
  simp only [if_neg h11]

/-! #### May -/
def val (v : Int) : Bool := decide (1 ≤ v ∧ v ≤ 1023)
theorem value_ok (v : Int) : kind_value.f v = some (val v) := by
  unfold kind_value.f val
  by_cases h : v ≥ 1
  · rw [if_pos h]; simp [show 1 ≤ v from h]
  · rw [if_neg h]; simp; omega
theorem may1_ok (v : Int) : kind_May_1.f v = some (!val v) := by unfold kind_May_1.f; rw [value_ok, Option.bind_some]
theorem index_l0 (d : Nat) : ∀ (i : Nat) (l : List Int), l.length ≤ maxLen → i ≤ l.length → l.length - i = d →
    ∃ v : Int, Ev (fun k => slices_IndexFunc_int_int_kind_May_1.l0 k l (l.length : Int) (i : Int)) v ∧ decide (v ≥ 0) = (l.drop i).any (fun v => !val v) := by
  have hml : maxLen ≤ 9223372036854775807 := by decide
  induction d with
  | zero =>
    intro i l hb hi hd
    refine ⟨-1, ?_, ?_⟩
    · refine Ev.succ ?_; simp only [slices_IndexFunc_int_int_kind_May_1.l0]
      exact Ev.ifn (by omega) Ev.pure
    · rw [List.drop_eq_nil_of_le (by omega)]; rfl
  | succ d ih =>
    intro i l hb hi hd
    have hi' : i < l.length := by omega
    have hdr : l.drop i = l.getD i 0 :: l.drop (i + 1) := by rw [List.drop_eq_getElem_cons hi', List.getD_eq_getElem?_getD, List.getElem?_eq_getElem hi']; rfl
    have hrd : rd l (i : Int) = l.getD i 0 := by simp only [rd, Int.toNat_natCast]
    cases hv : val (l.getD i 0) with
    | true =>
      obtain ⟨v, h1, h2⟩ := ih (i + 1) l hb (by omega) (by omega)
      refine ⟨v, ?_, ?_⟩
      · refine Ev.succ ?_; simp only [slices_IndexFunc_int_int_kind_May_1.l0]
        refine Ev.ifp (by omega) (Ev.ifp (by omega) (Ev.ifp (by omega) ?_))
        simp only [hrd, may1_ok, hv, wrap_nat (show i < 9223372036854775807 by omega), Option.bind_some, Bool.not_true, Bool.false_eq_true, if_false]
        exact h1
      · rw [hdr, List.any_cons, hv, h2]; rfl
    | false =>
      refine ⟨(i : Int), ?_, ?_⟩
      · refine Ev.succ ?_; simp only [slices_IndexFunc_int_int_kind_May_1.l0]
        refine Ev.ifp (by omega) (Ev.ifp (by omega) (Ev.ifp (by omega) ?_))
        simp only [hrd, may1_ok, hv, Option.bind_some, Bool.not_false, if_true]
        exact Ev.pure
      · rw [hdr, List.any_cons, hv]; simp
theorem contains_ok (l : List Int) (hb : l.length ≤ maxLen) : Ev (fun k => slices_ContainsFunc_int_int_kind_May_1.f k l) (l.any fun v => !val v) := by
  obtain ⟨v, h1, h2⟩ := index_l0 l.length 0 l hb (by omega) (by omega)
  unfold slices_ContainsFunc_int_int_kind_May_1.f slices_IndexFunc_int_int_kind_May_1.f
  refine Ev.bind h1 ?_
  rw [h2]; exact Ev.pure
def sto (c : Int) : Bool := c == 17 || c == 19
theorem stores_ok (c : Int) : kind_stores.f c = some (sto c) := by
  unfold kind_stores.f sto
  by_cases h : c = 17
  · simp [h]
  · rw [if_neg h]; simp [h]
def mayv (c b n d : Int) (l : List Int) (i : Int) : Bool :=
  shp b n && ((tk c b n i).2 && ((if sto c then d == 0 else val d) && (decide (((tk c b n i).1.length : Int) = (l.length : Int)) && !(l.any fun v => !val v))))
theorem may_ok (c b n d : Int) (l : List Int) (i : Int) (hb : l.length ≤ maxLen) : Ev (fun k => kind_May.f k c b n d l i) (mayv c b n d l i) := by
  unfold kind_May.f mayv
  simp only [shape_ok, Option.bind_some]
  cases hs : shp b n with
  | false => exact Ev.pure
  | true =>
    simp only [if_true, Bool.true_and]
    simp only [takes_ok c d i l hs, value_ok, stores_ok, Option.bind_some]
    generalize tk c b n i = q
    obtain ⟨L, o⟩ := q
    have hc := contains_ok l hb
    cases hst : sto c with
    | true =>
      simp only [if_true]
      cases o with
      | false => exact Ev.pure
      | true =>
        simp only [if_true, Bool.true_and]
        by_cases hd : d = 0
        · simp only [if_pos hd]
          by_cases hl : (L.length : Int) = (l.length : Int)
          · simp only [if_pos hl]
            refine Ev.bind hc ?_
            exact Ev.pure.of_eq (by simp [hd, hl])
          · simp only [if_neg hl]
            exact Ev.pure.of_eq (by simp [hl])
        · simp only [if_neg hd]; exact Ev.pure.of_eq (by simp [hd])
    | false =>
      simp only [Bool.false_eq_true, if_false]
      cases o with
      | false => exact Ev.pure
      | true =>
        simp only [if_true, Bool.true_and]
        cases hv : val d with
        | true =>
          simp only [if_true, Bool.true_and]
          by_cases hl : (L.length : Int) = (l.length : Int)
          · simp only [if_pos hl]
            refine Ev.bind hc ?_
            exact Ev.pure.of_eq (by simp [hl])
          · simp only [if_neg hl]
            exact Ev.pure.of_eq (by simp [hl])
        | false => exact Ev.pure
theorem takes2_ok (c b n d : Int) (l : List Int) (i : Int) (hb : l.length ≤ maxLen) : Ev (fun k => kind_Takes.f k c b n d l i) (if mayv c b n d l i then (tk c b n i).1 else []) := by
  unfold kind_Takes.f
  refine Ev.bind (may_ok c b n d l i hb) ?_
  cases hm : mayv c b n d l i with
  | false => exact Ev.pure
  | true =>
    have hs : shp b n = true := by unfold mayv at hm; rw [Bool.and_eq_true] at hm; exact hm.1
    simp only [if_true, takes_ok c d i l hs, Option.bind_some]
    exact Ev.pure
def gv (c b n : Int) : Int × Int := if 10 ≤ c ∧ c ≤ 12 then (1, 1) else if c = 22 then (b, 1) else (b, n)
theorem gives_ok (c b n d : Int) (l : List Int) (i : Int) (hb : l.length ≤ maxLen) : Ev (fun k => kind_Gives.f k c b n d l i) (if mayv c b n d l i && !(sto c) then gv c b n else (0, 0)) := by
  unfold kind_Gives.f
  refine Ev.bind (may_ok c b n d l i hb) ?_
  have h0 : ∀ x, Ev (fun k => kind_Gives.j0 k x c b n d l i) (if x then (0, 0) else gv c b n) := by
    intro x
    refine Ev.succ ?_; simp only [kind_Gives.j0]
    cases x with
    | true => exact Ev.ifp rfl Ev.pure
    | false =>
      refine Ev.ifn (by decide) ?_
      have h1 : ∀ y, Ev (fun k => kind_Gives.j1 k y c b n d l i) (if y then (1, 1) else if c = 22 then (b, 1) else (b, n)) := by
        intro y
        refine Ev.succ ?_; simp only [kind_Gives.j1]
        cases y with
        | true => exact Ev.ifp rfl Ev.pure
        | false =>
          refine Ev.ifn (by decide) ?_
          by_cases h : c = 22
          · exact Ev.ifp h (Ev.pure.of_eq (by simp [h]))
          · exact Ev.ifn h (Ev.pure.of_eq (by simp [h]))
      by_cases h : c ≥ 10
      · refine Ev.ifp h ((h1 _).of_eq ?_)
        unfold gv
        by_cases h2 : c ≤ 12
        · simp [h2, show 10 ≤ c from h]
        · simp [h2]
      · refine Ev.ifn h ((h1 _).of_eq ?_)
        simp only [Bool.false_eq_true, if_false]
        unfold gv
        rw [if_neg (fun e : 10 ≤ c ∧ c ≤ 12 => h e.1)]
  cases hm : mayv c b n d l i with
  | false => exact (h0 true).of_eq rfl
  | true =>
    simp only [if_true, stores_ok, Option.bind_some]
    exact (h0 _).of_eq (by cases sto c <;> rfl)
theorem awake_ok : locksteplaw03_awake.f 40 = some true := by decide +kernel
theorem awake_ev : Ev (fun k => locksteplaw03_awake.f k) true := Ev.of_at (fun k => locksteplaw03_awake.mono k) awake_ok
end Go.Proofs.Ytblhphjdjpodcaa.KP
