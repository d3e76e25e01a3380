/- Plain laws of the document's Shape, Args, Fits, May: they answer as kind's. No conditions beyond each theorem's own. -/
import Derived.Test.YtblhphjdjpodcaaKM
import Derived.Test.YtblhphjdjpodcaaQx21
namespace Go.Proofs.Ytblhphjdjpodcaa.KP
open Go.RowKit Go.Proofs.Ytblhphjdjpodcaa.Q Go.Proofs.YtblhphjdjpodcaaW.PrintWords
set_option linter.unusedSimpArgs false
set_option linter.unusedVariables false

theorem rwm_ok (b : Int) : lockstepref01_May.f b = some (wm b) := by
  unfold lockstepref01_May.f wm
  by_cases h1 : b = 1
  · simp [h1]
  by_cases h2 : b = 8
  · simp [h2]
  by_cases h3 : b = 16
  · simp [h3]
  by_cases h4 : b = 32
  · simp [h4]
  simp [h1, h2, h3, h4]
theorem rshape_ok (b n : Int) : lockstepref03_Shape.f b n = some (shp b n) := by
  rw [← shape_ok]
  unfold lockstepref03_Shape.f kind_Shape.f
  rw [rwm_ok, wm_ok, Option.bind_some, Option.bind_some]
  cases hb : wm b with
  | false => rfl
  | true =>
    have e : (b > 1) = (b ≥ 8) := by
      rcases wm_cases hb with h | h | h | h | h <;> subst h <;> simp
    simp only [if_true, e]
theorem rvalue_ok (v : Int) : lockstepref03_Value.f v = some (val v) := by
  unfold lockstepref03_Value.f val
  by_cases h : v > 0
  · rw [if_pos h]
    have : (v < 1024) = (1 ≤ v ∧ v ≤ 1023) := by apply propext; omega
    simp only [this]
  · rw [if_neg h]
    have : ¬ (1 ≤ v ∧ v ≤ 1023) := by omega
    simp [this]
def ra (c n : Int) : Int :=
  if c = 0 then 0 else if (1 ≤ c ∧ c ≤ 12) ∨ c = 17 then 2 else if c = 13 ∨ c = 18 ∨ c = 19 then 3 else if c = 14 ∨ c = 15 ∨ c = 16 ∨ c = 22 then 1 else if c = 20 then 4 else if c = 21 then n else -1
theorem kinds {c : Int} (h : 0 ≤ c ∧ c ≤ 22) : c = 0 ∨ c = 1 ∨ c = 2 ∨ c = 3 ∨ c = 4 ∨ c = 5 ∨ c = 6 ∨ c = 7 ∨ c = 8 ∨ c = 9 ∨ c = 10 ∨ c = 11 ∨ c = 12 ∨ c = 13 ∨ c = 14 ∨ c = 15 ∨ c = 16 ∨ c = 17 ∨ c = 18 ∨ c = 19 ∨ c = 20 ∨ c = 21 ∨ c = 22 := by omega
theorem rargs_ok (c b n d : Int) (l : List Int) (i : Int) : Ev (fun k => lockstepref03_Args.f k c b n d l i) (ra c n) := by
  refine ⟨5, fun k hk => ?_⟩
  obtain ⟨k, rfl⟩ : ∃ m, k = m + 5 := ⟨k - 5, by omega⟩
  by_cases h : 0 ≤ c ∧ c ≤ 22
  · rcases kinds h with h | h | h | h | h | h | h | h | h | h | h | h | h | h | h | h | h | h | h | h | h | h | h <;> subst h <;>
      simp [lockstepref03_Args.f, lockstepref03_Args.j0, lockstepref03_Args.j1, lockstepref03_Args.j2, ra]
  · have n0 : c ≠ 0 := by omega
    have n1 : c ≠ 1 := by omega
    have n2 : c ≠ 2 := by omega
    have n3 : c ≠ 3 := by omega
    have n4 : c ≠ 4 := by omega
    have n5 : c ≠ 5 := by omega
    have n6 : c ≠ 6 := by omega
    have n7 : c ≠ 7 := by omega
    have n8 : c ≠ 8 := by omega
    have n9 : c ≠ 9 := by omega
    have n10 : c ≠ 10 := by omega
    have n11 : c ≠ 11 := by omega
    have n12 : c ≠ 12 := by omega
    have n13 : c ≠ 13 := by omega
    have n14 : c ≠ 14 := by omega
    have n15 : c ≠ 15 := by omega
    have n16 : c ≠ 16 := by omega
    have n17 : c ≠ 17 := by omega
    have n18 : c ≠ 18 := by omega
    have n19 : c ≠ 19 := by omega
    have n20 : c ≠ 20 := by omega
    have n21 : c ≠ 21 := by omega
    have n22 : c ≠ 22 := by omega
    have e : ra c n = -1 := by
      unfold ra
      rw [if_neg n0, if_neg (by omega), if_neg (by omega), if_neg (by omega), if_neg n20, if_neg n21]
    rw [e]
    simp [lockstepref03_Args.f, lockstepref03_Args.j0, lockstepref03_Args.j1, lockstepref03_Args.j2, n0, n1, n2, n3, n4, n5, n6, n7, n8, n9, n10, n11, n12, n13, n14, n15, n16, n17, n18, n19, n20, n21, n22]
theorem cutv_eq {b i : Int} (m : Nat) (hm : m ≤ 64) (e : wrap64 (64 - b) = (m : Int)) : cutv i b = (i * 2 ^ m) % 18446744073709551616 / 2 ^ m := by
  unfold cutv shr shl
  rw [e, Int.toNat_natCast, Nat.min_eq_left (show m ≤ IntKind.u64.bits from hm), IntKind.wrap_u64]
theorem rcut_ok {b i : Int} (hb : wm b = true) (h0 : 0 ≤ i) (h1 : i < 18446744073709551616) : ∃ v, lockstepref01_Cut.f i b = some v ∧ (v == i) = (cutv i b == i) := by
  unfold lockstepref01_Cut.f
  rw [rwm_ok, hb, Option.bind_some, if_pos rfl]
  have key : ∀ v w : Int, v = w → (v == i) = (w == i) := fun v w e => by rw [e]
  rcases wm_cases hb with h | h | h | h | h <;> subst h
  · refine ⟨Int.tmod i 2, by rw [if_neg (by decide), if_pos (by decide +kernel), if_neg (by decide +kernel)]; rw [show shl .u64 1 (IntKind.u64.wrap 1) = 2 by decide +kernel], key _ _ ?_⟩
    rw [Int.tmod_eq_emod_of_nonneg h0, cutv_eq 63 (by decide) (by decide +kernel), show (2 : Int) ^ 63 = 9223372036854775808 by decide +kernel]; omega
  · refine ⟨Int.tmod i 256, by rw [if_neg (by decide), if_pos (by decide +kernel), if_neg (by decide +kernel)]; rw [show shl .u64 1 (IntKind.u64.wrap 8) = 256 by decide +kernel], key _ _ ?_⟩
    rw [Int.tmod_eq_emod_of_nonneg h0, cutv_eq 56 (by decide) (by decide +kernel), show (2 : Int) ^ 56 = 72057594037927936 by decide +kernel]; omega
  · refine ⟨Int.tmod i 65536, by rw [if_neg (by decide), if_pos (by decide +kernel), if_neg (by decide +kernel)]; rw [show shl .u64 1 (IntKind.u64.wrap 16) = 65536 by decide +kernel], key _ _ ?_⟩
    rw [Int.tmod_eq_emod_of_nonneg h0, cutv_eq 48 (by decide) (by decide +kernel), show (2 : Int) ^ 48 = 281474976710656 by decide +kernel]; omega
  · refine ⟨Int.tmod i 4294967296, by rw [if_neg (by decide), if_pos (by decide +kernel), if_neg (by decide +kernel)]; rw [show shl .u64 1 (IntKind.u64.wrap 32) = 4294967296 by decide +kernel], key _ _ ?_⟩
    rw [Int.tmod_eq_emod_of_nonneg h0, cutv_eq 32 (by decide) (by decide +kernel), show (2 : Int) ^ 32 = 4294967296 by decide +kernel]; omega
  · refine ⟨i, by rw [if_pos rfl], key _ _ ?_⟩
    rw [cutv_eq 0 (by decide) (by decide +kernel), show (2 : Int) ^ 0 = 1 by decide +kernel]; omega
theorem rfits_ok {c b n d i : Int} (l : List Int) (hc : 0 ≤ c ∧ c ≤ 22) (hs : shp b n = true) (h0 : 0 ≤ i) (h1 : i < 18446744073709551616) : Ev (fun k => lockstepref03_Fits.f k c b n d l i) (tk c b n i).2 := by
  have hb : wm b = true := by unfold shp at hs; rw [Bool.and_eq_true] at hs; exact hs.1
  have hn : n = 1 ∨ ¬ n < 2 := by have := (shp_cases hs).2; omega
  refine ⟨5, fun k hk => ?_⟩
  obtain ⟨k, rfl⟩ : ∃ m, k = m + 5 := ⟨k - 5, by omega⟩
  obtain ⟨v, hv1, hv2⟩ := rcut_ok (i := i) hb h0 h1
  rcases hn with hn | hn
  · subst hn
    rcases kinds hc with h | h | h | h | h | h | h | h | h | h | h | h | h | h | h | h | h | h | h | h | h | h | h <;> subst h <;> by_cases h8 : b < 8 <;>
    first
    | (simp [lockstepref03_Fits.f, lockstepref03_Fits.j0, lockstepref03_Fits.j1, lockstepref03_Fits.j2, tk, rwm_ok, hv1, hv2, h8]; done)
    | (by_cases hi : i < IntKind.u64.wrap b <;> by_cases hj : IntKind.u64.wrap b < i <;> by_cases hk : i ≤ 64 <;> simp [lockstepref03_Fits.f, lockstepref03_Fits.j0, lockstepref03_Fits.j1, lockstepref03_Fits.j2, tk, rwm_ok, hv1, hv2, h8, hi, hj, hk]; done)
    | (by_cases hi : i < IntKind.u64.wrap n <;> simp [lockstepref03_Fits.f, lockstepref03_Fits.j0, lockstepref03_Fits.j1, lockstepref03_Fits.j2, tk, rwm_ok, hv1, hv2, h8, hi]; done)
    | (simp [lockstepref03_Fits.f, lockstepref03_Fits.j0, lockstepref03_Fits.j1, lockstepref03_Fits.j2, tk, rwm_ok, hv1, hv2, h8] <;> omega)
  · have hne : n ≠ 1 := by omega
    rcases kinds hc with h | h | h | h | h | h | h | h | h | h | h | h | h | h | h | h | h | h | h | h | h | h | h <;> subst h <;> by_cases h8 : b < 8 <;>
    first
    | (simp [lockstepref03_Fits.f, lockstepref03_Fits.j0, lockstepref03_Fits.j1, lockstepref03_Fits.j2, tk, rwm_ok, hv1, hv2, h8, hn, hne]; done)
    | (by_cases hi : i < IntKind.u64.wrap b <;> by_cases hj : IntKind.u64.wrap b < i <;> by_cases hk : i ≤ 64 <;> simp [lockstepref03_Fits.f, lockstepref03_Fits.j0, lockstepref03_Fits.j1, lockstepref03_Fits.j2, tk, rwm_ok, hv1, hv2, h8, hn, hne, hi, hj, hk]; done)
    | (by_cases hi : i < IntKind.u64.wrap n <;> simp [lockstepref03_Fits.f, lockstepref03_Fits.j0, lockstepref03_Fits.j1, lockstepref03_Fits.j2, tk, rwm_ok, hv1, hv2, h8, hn, hne, hi]; done)
    | (simp [lockstepref03_Fits.f, lockstepref03_Fits.j0, lockstepref03_Fits.j1, lockstepref03_Fits.j2, tk, rwm_ok, hv1, hv2, h8, hn, hne] <;> omega)
theorem tk_len {c b n : Int} (i : Int) (hc : 0 ≤ c ∧ c ≤ 22) (hn : 1 ≤ n) : ((tk c b n i).1.length : Int) = ra c n := by
  rcases kinds hc with h | h | h | h | h | h | h | h | h | h | h | h | h | h | h | h | h | h | h | h | h | h | h <;> subst h <;> simp [tk, ra] <;> omega
theorem tk_no {c b n i : Int} (hc : ¬ (0 ≤ c ∧ c ≤ 22)) : tk c b n i = ([], false) := by
  unfold tk
  rw [if_neg (by omega), if_neg (by omega), if_neg (by omega), if_neg (by omega), if_neg (by omega), if_neg (by omega), if_neg (by omega), if_neg (by omega), if_neg (by omega), if_neg (by omega), if_neg (by omega), if_neg (by omega)]
theorem ra_no {c n : Int} (hc : ¬ (0 ≤ c ∧ c ≤ 22)) : ra c n = -1 := by
  unfold ra
  rw [if_neg (by omega), if_neg (by omega), if_neg (by omega), if_neg (by omega), if_neg (by omega), if_neg (by omega)]
theorem shp_n {b n : Int} (h : shp b n = true) : 1 ≤ n := by have := (shp_cases h).2; omega
def dstv (c d : Int) : Bool := if sto c then d == 0 else val d
theorem rmay_l0 (c b n d : Int) (l : List Int) (i : Int) (hb : l.length ≤ maxLen) (m : Nat) : ∀ j : Nat, j ≤ l.length → l.length - j = m →
    Ev (fun k => lockstepref03_May.l0 k (j : Int) c b n d l i) ((l.drop j).all val && dstv c d) := by
  have hml : maxLen ≤ 9223372036854775807 := by decide
  induction m with
  | zero =>
    intro j hj hd
    refine Ev.succ ?_; simp only [lockstepref03_May.l0]
    refine Ev.ifn (by omega) ?_
    rw [List.drop_eq_nil_of_le (by omega)]
    simp only [List.all_nil, Bool.true_and, rvalue_ok, Option.bind_some]
    unfold dstv sto
    by_cases h17 : c = 17
    · exact Ev.ifp h17 (Ev.pure.of_eq (by simp [h17]))
    refine Ev.ifn h17 ?_
    by_cases h19 : c = 19
    · exact Ev.ifp h19 (Ev.pure.of_eq (by simp [h19]))
    · exact Ev.ifn h19 (Ev.pure.of_eq (by simp [h17, h19]))
  | succ m ih =>
    intro j hj hd
    have hj' : j < l.length := by omega
    have hdr : l.drop j = l.getD j 0 :: l.drop (j + 1) := by rw [List.drop_eq_getElem_cons hj', List.getD_eq_getElem?_getD, List.getElem?_eq_getElem hj']; rfl
    have hrd : rd l (j : Int) = l.getD j 0 := by simp only [rd, Int.toNat_natCast]
    refine Ev.succ ?_; simp only [lockstepref03_May.l0]
    refine Ev.ifp (by omega) (Ev.ifp (by omega) ?_)
    simp only [hrd, rvalue_ok, Option.bind_some]
    rw [hdr, List.all_cons]
    cases hv : val (l.getD j 0) with
    | true =>
      refine Ev.ifp rfl ?_
      rw [wrap_nat (by omega), Bool.true_and]; exact ih (j + 1) (by omega) (by omega)
    | false => exact Ev.ifn (by decide) Ev.pure
theorem all_any (l : List Int) : l.all val = !(l.any fun v => !val v) := by
  induction l with
  | nil => rfl
  | cons x l ih => rw [List.all_cons, List.any_cons, ih]; cases val x <;> simp
theorem rmay_ok (c b n d : Int) (l : List Int) (i : Int) (hb : l.length ≤ maxLen) (h0 : 0 ≤ i) (h1 : i < 18446744073709551616) : Ev (fun k => lockstepref03_May.f k c b n d l i) (mayv c b n d l i) := by
  unfold lockstepref03_May.f
  simp only [rshape_ok, Option.bind_some]
  have hno : Ev (fun k => lockstepref03_May.j0 k true c b n d l i) false := by
    refine Ev.succ ?_; simp only [lockstepref03_May.j0]; exact Ev.ifp trivial Ev.pure
  cases hs : shp b n with
  | false => exact (Ev.ifn (by decide) hno).of_eq (by unfold mayv; rw [hs]; rfl)
  | true =>
    refine Ev.ifp rfl ?_
    refine Ev.bind (rargs_ok c b n d l i) ?_
    have hn := shp_n hs
    by_cases hc : 0 ≤ c ∧ c ≤ 22
    · have hl := tk_len (b := b) i hc hn
      by_cases hr : ra c n = (l.length : Int)
      · refine Ev.ifp hr (Ev.bind (rfits_ok l hc hs h0 h1) ?_)
        refine Ev.succ ?_; simp only [lockstepref03_May.j0]
        have e : mayv c b n d l i = ((tk c b n i).2 && (l.all val && dstv c d)) := by
          unfold mayv
          rw [hs, decide_eq_true (hl.trans hr), all_any]
          unfold dstv
          cases (tk c b n i).2 <;> cases (if sto c then d == 0 else val d) <;> cases (l.any fun v => !val v) <;> rfl
        rw [e]
        cases (tk c b n i).2 with
        | false => exact Ev.ifp rfl Ev.pure
        | true =>
          refine Ev.ifn (by decide) ?_
          exact rmay_l0 c b n d l i hb l.length 0 (by omega) (by omega)
      · refine (Ev.ifn hr hno).of_eq ?_
        unfold mayv
        rw [decide_eq_false (fun e => hr (hl.symm.trans e))]
        simp
    · have hr := ra_no (n := n) hc
      refine (Ev.ifn (by rw [hr]; omega) hno).of_eq ?_
      unfold mayv
      rw [tk_no hc]; simp
end Go.Proofs.Ytblhphjdjpodcaa.KP
