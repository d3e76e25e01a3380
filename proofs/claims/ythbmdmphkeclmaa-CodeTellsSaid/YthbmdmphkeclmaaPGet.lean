/- Plain laws of numbers as bytes: num.Get, num.Row, num.List. No conditions beyond each theorem's own. -/
import Derived.Test.YthbmdmphkeclmaaPNum
set_option linter.unusedVariables false
set_option linter.unusedSimpArgs false
namespace Go.PrS
open Go Go.Ev Go.Proofs
theorem pow128_pos (n : Nat) : (0 : Int) < 128 ^ n := Int.pow_pos (by decide)
theorem next_lt {v c : Int} {n : Nat} (hv' : v < 128 ^ n) : v + c % 128 * 128 ^ n < 128 ^ (n + 1) := by
  have hp := pow128_pos n
  have : (c % 128 + 1) * 128 ^ n ≤ 128 * 128 ^ n := Int.mul_le_mul_of_nonneg_right (by omega) (by omega)
  rw [Int.add_mul] at this
  rw [Int.pow_succ]; omega
theorem go_a {c : Int} {cs : List Int} {n : Nat} {v : Int} (h : n = 9) (hc : c > 1) : go (c :: cs) n v = (0, 0, 3) := by simp only [go]; rw [if_pos ⟨h, hc⟩]
theorem go_b {c : Int} {cs : List Int} {n : Nat} {v : Int} (h : ¬ (n = 9 ∧ c > 1)) (hc : c ≥ 128) : go (c :: cs) n v = go cs (n + 1) (v + c % 128 * 128 ^ n) := by rw [go, if_neg h, if_pos hc]
theorem go_c {c : Int} {cs : List Int} {n : Nat} {v : Int} (hc : c = 0) (h : n ≥ 1) : go (c :: cs) n v = (0, 0, 3) := by rw [go, if_neg (by omega), if_neg (by omega), if_pos ⟨hc, h⟩]
theorem go_d {c : Int} {cs : List Int} {n : Nat} {v : Int} (h : ¬ (n = 9 ∧ c > 1)) (hc : ¬ c ≥ 128) (h' : ¬ (c = 0 ∧ n ≥ 1)) : go (c :: cs) n v = (v + c % 128 * 128 ^ n, ((n + 1 : Nat) : Int), 0) := by rw [go, if_neg h, if_neg hc, if_neg h']
theorem get_j0 (d : Nat) : ∀ (n : Nat) (b : List Int) (v : Int), Bytes b → b.length ≤ maxLen → n ≤ b.length → n + d = 9 → 0 ≤ v → v < 128 ^ n → EvTo (fun k => num_Get_s1_j0 k b v (n : Int)) (.inl (go (b.drop n) n v)) := by
  induction d with
  | zero =>
    intro n b v hb hl hn hd hv hv'
    have hm := maxLen_le
    obtain rfl : n = 9 := by omega
    refine EvTo.succ ?_
    simp only [num_Get_s1_j0]
    by_cases h1 : 9 < b.length
    · obtain ⟨hc0, hc1⟩ := hb b[9] (List.getElem_mem h1)
      refine EvTo.ifn (by simp; omega) (EvTo.ifp (by omega) (EvTo.ifp (by simp) ?_))
      rw [getI h1, List.drop_eq_getElem_cons h1]
      by_cases hgt : b[9] > 1
      · rw [go_a rfl hgt]
        exact EvTo.ifp (by simpa using hgt) EvTo.pure
      · have hor := or_step (v := v) (c := b[9]) (n := 9) (by omega) hv hv' hc0 hc1 (fun _ => by omega)
        unfold bmix band at hor
        rw [hor, wrapS h1 (by omega)]
        refine EvTo.ifn (by simpa using hgt) (EvTo.ifp (by rw [wrap_i64 (by omega) (by omega)]; omega) (EvTo.ifn (by simp; omega) ?_))
        by_cases hz : b[9] = 0
        · rw [go_c hz (by omega)]
          exact EvTo.ifp (by simpa using hz) (EvTo.ifp (by simp) EvTo.pure)
        · rw [go_d (by omega) (by omega) (by omega)]
          exact EvTo.ifn (by simpa using hz) EvTo.pure
    · rw [List.drop_of_length_le (by omega)]
      exact EvTo.ifp (by simp; omega) EvTo.pure
  | succ d ih =>
    intro n b v hb hl hn hd hv hv'
    have hm := maxLen_le
    refine EvTo.succ ?_
    simp only [num_Get_s1_j0]
    by_cases h1 : n < b.length
    · obtain ⟨hc0, hc1⟩ := hb b[n] (List.getElem_mem h1)
      refine EvTo.ifn (by simp; omega) (EvTo.ifp (by omega) (EvTo.ifn (by simp; omega) ?_))
      have hor := or_step (v := v) (c := b[n]) (n := n) (by omega) hv hv' hc0 hc1 (fun _ => by omega)
      unfold bmix band at hor
      rw [getI h1, List.drop_eq_getElem_cons h1, hor, wrapS h1 (by omega)]
      refine EvTo.ifp (by rw [wrap_i64 (by omega) (by omega)]; omega) ?_
      have hp := pow128_pos n
      by_cases hge : b[n] ≥ 128
      · rw [go_b (by omega) hge]
        exact EvTo.ifp (by simpa using hge) (ih (n + 1) b _ hb hl (by omega) (by omega) (Int.add_nonneg hv (Int.mul_nonneg (by omega) (by omega))) (next_lt hv'))
      · refine EvTo.ifn (by simpa using hge) ?_
        by_cases hz : b[n] = 0
        · refine EvTo.ifp (by simpa using hz) ?_
          by_cases hn1 : n ≥ 1
          · rw [go_c hz hn1]
            exact EvTo.ifp (by simp; omega) EvTo.pure
          · rw [go_d (by omega) (by omega) (by omega)]
            exact EvTo.ifn (by simp; omega) EvTo.pure
        · rw [go_d (by omega) (by omega) (by omega)]
          exact EvTo.ifn (by simpa using hz) EvTo.pure
    · rw [List.drop_of_length_le (by omega)]
      exact EvTo.ifp (by simp; omega) EvTo.pure
theorem get_ok {b : List Int} (hb : Bytes b) (hl : b.length ≤ maxLen) : EvTo (fun k => num_Get k b) (go b 0 0) := by
  unfold num_Get
  have hm := maxLen_le
  have key : EvTo (fun k => num_Get_s1 k b) (.inl (go b 0 0)) := by
    unfold num_Get_s1
    by_cases h1 : 0 < b.length
    · obtain ⟨hc0, hc1⟩ := hb b[0] (List.getElem_mem h1)
      have hor := or_step (v := 0) (c := b[0]) (n := 0) (by omega) (by omega) (by decide) hc0 hc1 (fun _ => by omega)
      unfold bmix band at hor
      have e0 : (2 : Int) ^ (min ((IntKind.wrap .i64 (7 * ((0 : Nat) : Int))).toNat) 64) = 1 := by rw [wrap_i64 (by omega) (by omega)]; rfl
      rw [e0] at hor
      have hg : go b 0 0 = go (b[0] :: b.drop 1) 0 0 := by rw [← List.drop_eq_getElem_cons h1, List.drop_zero]
      rw [hg, getN h1, hor]
      refine EvTo.ifn (by simp; omega) (EvTo.ifp (by omega) ?_)
      by_cases hge : b[0] ≥ 128
      · rw [go_b (by omega) hge]
        refine EvTo.ifp (by simpa using hge) ?_
        exact get_j0 8 1 b _ hb hl (by omega) (by omega) (by simp; omega) (by simp; omega)
      · rw [go_d (by omega) hge (by omega)]
        refine EvTo.ifn (by simpa using hge) ?_
        by_cases hz : b[0] = 0
        · exact EvTo.ifp (by simpa using hz) EvTo.pure
        · exact EvTo.ifn (by simpa using hz) EvTo.pure
    · have : b = [] := List.eq_nil_of_length_eq_zero (by omega)
      subst this
      exact EvTo.ifp (by simp) EvTo.pure
  exact EvTo.bind key EvTo.pure
/-! lists -/
/-- Numbers, one behind the other, as bytes. -/
def encs : List Int → List Int
  | [] => []
  | n :: ns => enc n.toNat ++ encs ns
theorem encs_append (a b : List Int) : encs (a ++ b) = encs a ++ encs b := by
  induction a with
  | nil => rfl
  | cons x a ih => simp only [List.cons_append, encs, ih, List.append_assoc]
theorem encs_bytes : ∀ ns : List Int, Bytes (encs ns)
  | [] => fun x h => by simp [encs] at h
  | n :: ns => (enc_bytes _).append (encs_bytes ns)
/-- A number such as is told. -/
def inN (x : Int) : Bool := decide (0 ≤ x ∧ x ≤ 2147483647)
theorem inN_iff {x : Int} : inN x = true ↔ 0 ≤ x ∧ x ≤ 2147483647 := by simp [inN]
theorem encs_len : ∀ ns : List Int, ns.all inN = true → (encs ns).length ≤ 10 * ns.length
  | [], _ => by simp [encs]
  | n :: ns, h => by
    simp only [List.all_cons, Bool.and_eq_true, inN_iff] at h
    have h1 := encs_len ns h.2
    have h2 := enc_len64 (v := n.toNat) (by omega)
    simp only [encs, List.length_append, List.length_cons]; omega
def rowB (l : List Int) : List Int := enc l.length ++ encs l
theorem rowB_bytes (l : List Int) : Bytes (rowB l) := (enc_bytes _).append (encs_bytes l)
theorem row_ok {l : List Int} (hl : l.all inN = true) (hn : l.length ≤ 1000000) : EvTo (fun k => num_Row k l) (rowB l) := by
  unfold num_Row
  have h0 := put_ok (v := l.length) (by omega)
  have h0l := enc_len64 (v := l.length) (by omega)
  rw [wrap_u64 (x := (l.length : Int)) (by omega) (by omega)]
  refine EvTo.bind h0 ?_
  have key := EvTo.range l (fun k i (acc : List Int) => num_Row_l3 k l (l.length : Int) acc (i : Int)) (fun _ acc r => Sum.inl (acc ++ encs r)) (fun i acc => acc.length ≤ 10 + 10 * i)
    (fun a _ => by
      refine EvTo.succ ?_
      simp only [num_Row_l3]
      exact EvTo.ifn (by simp) (EvTo.pure' (by simp [encs])))
    (fun i h a ha ih => by
      refine EvTo.succ ?_
      simp only [num_Row_l3]
      have hx := inN_iff.1 (List.all_eq_true.1 hl _ (List.getElem_mem h))
      have hm := maxLen_le
      refine EvTo.ifp (by simpa using h) (EvTo.ifp (by omega) ?_)
      rw [getI h]
      refine EvTo.ifn (by simp; omega) ?_
      rw [wrap_u64 (by omega) (by omega)]
      refine EvTo.bind (put_i hx.1 (by omega)) ?_
      have he := enc_len64 (v := l[i].toNat) (by omega)
      refine EvTo.ifp (by rw [most_eq, List.length_append]; omega) ?_
      rw [wrapS h (by omega)]
      refine (ih _ (by rw [List.length_append]; omega)).to ?_
      simp [encs])
  exact EvTo.bind (key _ (by omega)) EvTo.pure
end Go.PrS
