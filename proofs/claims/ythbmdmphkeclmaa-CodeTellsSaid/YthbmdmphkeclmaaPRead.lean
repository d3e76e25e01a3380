/- What the reader's parts come to: each is a way to read of which one to tell is known. No conditions beyond each theorem's own. -/
import Derived.Test.YthbmdmphkeclmaaPCodec
set_option linter.unusedVariables false
set_option linter.unusedSimpArgs false
namespace Go.PrS
open Go Go.Ev Go.Proofs
theorem go_len : ∀ (b : List Int) (n : Nat) (acc : Int), 0 ≤ (go b n acc).2.1 ∧ (go b n acc).2.1 ≤ ((n + b.length : Nat) : Int)
  | [], n, acc => by simp [go]
  | c :: cs, n, acc => by
    simp only [go]
    split
    · simp; omega
    · split
      · have := go_len cs (n + 1) (acc + c % 128 * 128 ^ n)
        simp only [List.length_cons]; omega
      · split
        · simp; omega
        · simp; omega
theorem go_zero {b : List Int} (h : (go b 0 0).2.2 = 0) : go b 0 0 = ((go b 0 0).1, (go b 0 0).2.1, 0) := Prod.ext rfl (Prod.ext rfl h)
theorem go_nonneg {b : List Int} (hb : Bytes b) : 0 ≤ (go b 0 0).1 ∧ (go b 0 0).1 < 18446744073709551616 := by
  rcases go_err b 0 0 with h | ⟨e, h, _⟩
  · obtain ⟨m, h1, _, _, h4⟩ := go_sound0 hb (go_zero h)
    omega
  · rw [h]; simp
/-- wide -/
def wideC : Codec Int where
  P s := if s.2.1 ≠ 0 then (0, s) else ((go s.1 0 0).1, s.1.drop (go s.1 0 0).2.1.toNat, (go s.1 0 0).2.2, ())
  E x := enc x.toNat
  V x := 0 ≤ x ∧ x < 18446744073709551616
  bytes x _ := enc_bytes _
  ok {x} more h := by
    simp only [ne_eq, not_true_eq_false, if_false]
    rw [go_enc0 _ _ (by omega)]
    simp; omega
  cut {x j} h hj := by
    simp only [ne_eq, not_true_eq_false, if_false]
    rw [go_cut0 _ _ (by omega) hj]
  sound s hb he h := by
    simp only [he, ne_eq, not_true_eq_false, if_false] at h ⊢
    obtain ⟨m, h1, h2, ⟨more, h3⟩, h4⟩ := go_sound0 hb (go_zero h)
    rw [h1, h2]
    refine ⟨by omega, ?_⟩
    simp only [Int.toNat_natCast]
    rw [h3]; simp
  err s he := by rw [if_pos he]
  suf s := by
    split
    · exact ⟨0, by simp⟩
    · exact ⟨_, rfl⟩
/-- a number, at most so much -/
def countC (most : Nat) (hm : most < 18446744073709551616) : Codec Int where
  P s := if (wideC.P s).1 > (most : Int) then (0, (wideC.P s).2.1, 4, ()) else wideC.P s
  E x := enc x.toNat
  V x := 0 ≤ x ∧ x ≤ (most : Int)
  bytes x _ := enc_bytes _
  ok {x} more h := by
    have hok := wideC.ok (x := x) more (show 0 ≤ x ∧ x < 18446744073709551616 by omega)
    have hok : wideC.P (enc x.toNat ++ more, 0, ()) = (x, more, 0, ()) := hok
    rw [hok]
    simp only
    rw [if_neg (by omega)]
  cut {x j} h hj := by
    have hc := wideC.cut (x := x) (j := j) (show 0 ≤ x ∧ x < 18446744073709551616 by omega) hj
    have hc : (wideC.P ((enc x.toNat).take j, 0, ())).2.2.1 = 2 := hc
    have h0 : (wideC.P ((enc x.toNat).take j, 0, ())).1 = 0 := by
      simp only [wideC, ne_eq, not_true_eq_false, if_false]
      rw [go_cut0 _ _ (by omega) hj]
    rw [h0, if_neg (by omega)]
    exact hc
  sound s hb he h := by
    split at h
    · simp at h
    · rename_i h1
      rw [if_neg h1]
      obtain ⟨k1, k2⟩ := wideC.sound s hb he h
      exact ⟨⟨k1.1, by omega⟩, k2⟩
  err s he := by
    have h1 : wideC.P s = (0, s) := by simp only [wideC]; rw [if_pos he]
    rw [h1]
    simp only
    rw [if_neg (by omega)]
  suf s := by
    obtain ⟨n, h⟩ := wideC.suf s
    split
    · exact ⟨n, h⟩
    · exact ⟨n, h⟩
abbrev numC : Codec Int := countC 2147483647 (by decide)
theorem wide_ok {s : St} (hb : Bytes s.1) (hl : s.1.length ≤ maxLen) : EvTo (fun k => code_reader_wide k s) (wideC.P s) := by
  unfold code_reader_wide
  simp only [wideC]
  by_cases he : s.2.1 = 0
  · rw [if_neg (by simpa using he)]
    refine EvTo.ifn (by simpa using he) (EvTo.bind (get_ok hb hl) ?_)
    have := go_len s.1 0 0
    exact EvTo.ifp (by simpa using this) EvTo.pure
  · rw [if_pos he]
    exact EvTo.ifp (by simpa using he) EvTo.pure
theorem wide_range {s : St} (hb : Bytes s.1) : 0 ≤ (wideC.P s).1 ∧ (wideC.P s).1 < 18446744073709551616 := by
  simp only [wideC]
  split
  · simp
  · exact go_nonneg hb
theorem num_ok {s : St} (hb : Bytes s.1) (hl : s.1.length ≤ maxLen) : EvTo (fun k => code_reader_num k s) (numC.P s) := by
  unfold code_reader_num
  refine EvTo.bind (wide_ok hb hl) ?_
  have hr := wide_range (s := s) hb
  simp only [countC]
  by_cases h : (wideC.P s).1 > 2147483647
  · exact EvTo.ifp (by simpa using h) (EvTo.pure' (by rw [if_pos (by omega)]))
  · exact EvTo.ifn (by simpa using h) (EvTo.pure' (by rw [if_neg (by omega), wrap_i64 (by omega) (by omega)]))
theorem count_ok {s : St} (hb : Bytes s.1) (hl : s.1.length ≤ maxLen) {m : Nat} (hm : m ≤ 1000) : EvTo (fun k => code_reader_count k s (m : Int)) ((countC m (by omega)).P s) := by
  unfold code_reader_count
  refine EvTo.bind (wide_ok hb hl) ?_
  have hr := wide_range (s := s) hb
  simp only [countC]
  rw [wrap_u64 (x := (m : Int)) (by omega) (by omega)]
  by_cases h : (wideC.P s).1 > (m : Int)
  · exact EvTo.ifp (by simpa using h) (EvTo.pure' (by rw [if_pos (by omega)]))
  · exact EvTo.ifn (by simpa using h) (EvTo.pure' (by rw [if_neg (by omega), wrap_i64 (by omega) (by omega)]))
/-- lists of numbers -/
def listC (m : Nat) (hm : m < 18446744073709551616) : Codec (List Int) := ((countC m hm).many numC m (fun n => by simp [countC]) (fun x => Iff.rfl)).all []
theorem listC_E (m : Nat) (hm : m < 18446744073709551616) (l : List Int) : (listC m hm).E l = rowB l := by
  show enc l.length ++ l.flatMap (fun x => enc x.toNat) = enc l.length ++ encs l
  congr 1
  induction l with
  | nil => rfl
  | cons x l ih => simp [encs, ih]
theorem listC_V (m : Nat) (hm : m < 18446744073709551616) (l : List Int) : (listC m hm).V l ↔ l.length ≤ m ∧ l.all inN = true := by
  show (l.length ≤ m ∧ ∀ x ∈ l, 0 ≤ x ∧ x ≤ 2147483647) ↔ _
  simp [inN]
theorem list_l8 : ∀ (n i at_ : Nat) (b acc : List Int) (cnt : Int), Bytes b → b.length ≤ maxLen → at_ ≤ b.length → cnt = ((i + n : Nat) : Int) → cnt ≤ 1000 → acc.length ≤ i →
    ∃ v, EvTo (fun k => num_List_l8 k b cnt (at_ : Int) acc (i : Int)) v ∧ (if (listP numC.P n acc (b.drop at_, 0, ())).2.2.1 = 0 then ∃ p : Nat, p ≤ b.length ∧ v = .inl ((p : Int), (listP numC.P n acc (b.drop at_, 0, ())).1) ∧ (listP numC.P n acc (b.drop at_, 0, ())).2.1 = b.drop p else v = .inr ([], 0, (listP numC.P n acc (b.drop at_, 0, ())).2.2.1))
  | 0, i, at_, b, acc, cnt, hb, hl, ha, hc, hc', hacc => by
    refine ⟨.inl ((at_ : Int), acc), EvTo.succ ?_, ?_⟩
    · simp only [num_List_l8]
      exact EvTo.ifn (by simp; omega) EvTo.pure
    · simp only [listP, if_true]
      exact ⟨at_, ha, rfl, rfl⟩
  | n + 1, i, at_, b, acc, cnt, hb, hl, ha, hc, hc', hacc => by
    have hm := maxLen_le
    have hbd := hb.drop at_
    have hld : (b.drop at_).length ≤ maxLen := by rw [List.length_drop]; omega
    have hr := go_nonneg hbd
    have hln := go_len (b.drop at_) 0 0
    simp only [Nat.zero_add, List.length_drop] at hln
    have hP : wideC.P (b.drop at_, 0, ()) = ((go (b.drop at_) 0 0).1, (b.drop at_).drop (go (b.drop at_) 0 0).2.1.toNat, (go (b.drop at_) 0 0).2.2, ()) := by
      simp [wideC]
    by_cases he : (go (b.drop at_) 0 0).2.2 = 0
    · by_cases hg : (go (b.drop at_) 0 0).1 > 2147483647
      · refine ⟨.inr ([], 0, 4), EvTo.succ ?_, ?_⟩
        · simp only [num_List_l8]
          refine EvTo.ifp (by simp; omega) (EvTo.ifp (by omega) ?_)
          rw [Int.toNat_natCast]
          exact EvTo.bind (get_ok hbd hld) (EvTo.ifn (by simpa using he) (EvTo.ifp (by simpa using hg) EvTo.pure))
        · have hN : numC.P (b.drop at_, 0, ()) = (0, (b.drop at_).drop (go (b.drop at_) 0 0).2.1.toNat, 4, ()) := by
            simp only [countC, hP]
            rw [if_pos (by omega)]
          simp only [listP, hN]
          simp
      · have hN : numC.P (b.drop at_, 0, ()) = ((go (b.drop at_) 0 0).1, (b.drop at_).drop (go (b.drop at_) 0 0).2.1.toNat, 0, ()) := by
          simp only [countC, hP]
          rw [if_neg (by omega), he]
        obtain ⟨p, hp⟩ : ∃ p : Nat, (go (b.drop at_) 0 0).2.1 = (p : Int) := ⟨(go (b.drop at_) 0 0).2.1.toNat, by omega⟩
        obtain ⟨v, h1, h2⟩ := list_l8 n (i + 1) (at_ + p) b (acc ++ [(go (b.drop at_) 0 0).1]) cnt hb hl (by omega) (by omega) hc' (by simp; omega)
        refine ⟨v, EvTo.succ ?_, ?_⟩
        · simp only [num_List_l8]
          refine EvTo.ifp (by simp; omega) (EvTo.ifp (by omega) ?_)
          rw [Int.toNat_natCast]
          refine EvTo.bind (get_ok hbd hld) (EvTo.ifn (by simpa using he) (EvTo.ifn (by simpa using hg) ?_))
          rw [wrap_i64 (x := (go (b.drop at_) 0 0).1) (by omega) (by omega), hp, wrap_i64 (x := (at_ : Int) + (p : Int)) (by omega) (by omega), wrap_u64 (x := (i : Int) + 1) (by omega) (by omega)]
          refine EvTo.ifp (by rw [most_eq]; simp; omega) ?_
          exact h1
        · have e : listP numC.P (n + 1) acc (b.drop at_, 0, ()) = listP numC.P n (acc ++ [(go (b.drop at_) 0 0).1]) (b.drop (at_ + p), 0, ()) := by
            simp only [listP, hN]
            simp only [ne_eq, not_true_eq_false, if_false]
            rw [hp, Int.toNat_natCast, List.drop_drop]
          rw [e]
          exact h2
    · refine ⟨.inr ([], 0, (go (b.drop at_) 0 0).2.2), EvTo.succ ?_, ?_⟩
      · simp only [num_List_l8]
        refine EvTo.ifp (by simp; omega) (EvTo.ifp (by omega) ?_)
        rw [Int.toNat_natCast]
        exact EvTo.bind (get_ok hbd hld) (EvTo.ifp (by simpa using he) EvTo.pure)
      · have h0 : (go (b.drop at_) 0 0).1 = 0 := by
          rcases go_err (b.drop at_) 0 0 with h | ⟨e, h, _⟩
          · exact absurd h he
          · rw [h]
        have hN : numC.P (b.drop at_, 0, ()) = (0, (b.drop at_).drop (go (b.drop at_) 0 0).2.1.toNat, (go (b.drop at_) 0 0).2.2, ()) := by
          simp only [countC, hP, h0]
          rw [if_neg (by omega)]
        simp only [listP, hN, ne_eq, he, not_false_eq_true, if_true, if_false]
theorem list_ok {s : St} (hb : Bytes s.1) (hl : s.1.length ≤ maxLen) {m : Nat} (hm : m ≤ 1000) : EvTo (fun k => code_reader_list k s (m : Int)) ((listC m (by omega)).P s) := by
  unfold code_reader_list
  by_cases he : s.2.1 = 0
  · refine EvTo.ifn (by simpa using he) ?_
    obtain ⟨b, e, ⟨⟩⟩ := s
    simp only at he hb hl ⊢
    subst he
    have hr := go_nonneg hb
    have hln := go_len b 0 0
    simp only [Nat.zero_add] at hln
    have hP : wideC.P (b, 0, ()) = ((go b 0 0).1, b.drop (go b 0 0).2.1.toNat, (go b 0 0).2.2, ()) := by simp [wideC]
    by_cases h0 : (go b 0 0).2.2 = 0
    · by_cases hg : (go b 0 0).1 > (m : Int)
      · have hC : (countC m (by omega)).P (b, 0, ()) = (0, b.drop (go b 0 0).2.1.toNat, 4, ()) := by
          simp only [countC, hP]
          rw [if_pos (by omega)]
        have hv : (listC m (by omega)).P (b, 0, ()) = ([], b, 4, ()) := by
          simp only [listC, Codec.all, Codec.many, hC, listP, ne_eq, not_true_eq_false, if_false, Int.toNat_zero]
          rfl
        rw [hv]
        refine EvTo.bind (a := ([], 0, 4)) ?_ ?_
        · unfold num_List
          refine EvTo.bind (get_ok hb hl) (EvTo.ifn (by simpa using h0) (EvTo.ifp (by rw [decide_eq_false_iff_not]; omega) ?_))
          rw [wrap_u64 (x := (m : Int)) (by omega) (by omega)]
          exact EvTo.ifp (by simpa using hg) EvTo.pure
        · exact EvTo.ifp (by simp) (EvTo.pure' (by simp))
      · obtain ⟨p, hp⟩ : ∃ p : Nat, (go b 0 0).2.1 = (p : Int) := ⟨(go b 0 0).2.1.toNat, by omega⟩
        obtain ⟨n, hn⟩ : ∃ n : Nat, (go b 0 0).1 = (n : Int) := ⟨(go b 0 0).1.toNat, by omega⟩
        obtain ⟨v, h1, h2⟩ := list_l8 n 0 p b [] (n : Int) hb hl (by omega) (by omega) (by omega) (by simp)
        have hC : (countC m (by omega)).P (b, 0, ()) = ((n : Int), b.drop p, 0, ()) := by
          simp only [countC, hP]
          rw [if_neg (by omega), h0, hp, hn]; rfl
        have hlist : EvTo (fun k => num_List k b (m : Int)) (Sum.elim (fun r => (r.2, r.1, 0)) id v) := by
          unfold num_List
          refine EvTo.bind (get_ok hb hl) (EvTo.ifn (by simpa using h0) (EvTo.ifp (by rw [decide_eq_false_iff_not]; omega) ?_))
          rw [wrap_u64 (x := (m : Int)) (by omega) (by omega)]
          refine EvTo.ifn (by simpa using hg) ?_
          rw [hn, hp]
          refine EvTo.bind h1 ?_
          cases v with
          | inl r => exact EvTo.pure
          | inr r => exact EvTo.pure
        refine EvTo.bind hlist ?_
        split at h2
        · rename_i hz
          obtain ⟨q, q1, rfl, q3⟩ := h2
          have hv : (listC m (by omega)).P (b, 0, ()) = ((listP numC.P n [] (b.drop p, 0, ())).1, b.drop q, 0, ()) := by
            simp only [listC, Codec.all, Codec.many, hC, ne_eq, not_true_eq_false, if_false, Int.toNat_natCast, hz]
            rw [← q3]
            exact Prod.ext rfl (Prod.ext rfl (Prod.ext hz rfl))
          rw [hv]
          exact EvTo.ifp (by simp; omega) (EvTo.pure' (by simp))
        · rename_i hz
          subst h2
          have hv : (listC m (by omega)).P (b, 0, ()) = ([], b, (listP numC.P n [] (b.drop p, 0, ())).2.2.1, ()) := by
            simp only [listC, Codec.all, Codec.many, hC, ne_eq, not_true_eq_false, if_false, Int.toNat_natCast, hz, not_false_eq_true, if_true]
          rw [hv]
          exact EvTo.ifp (by simp) (EvTo.pure' (by simp))
    · have hz : (go b 0 0).1 = 0 := by
        rcases go_err b 0 0 with h | ⟨e, h, _⟩
        · exact absurd h h0
        · rw [h]
      have hC : (countC m (by omega)).P (b, 0, ()) = (0, b.drop (go b 0 0).2.1.toNat, (go b 0 0).2.2, ()) := by
        simp only [countC, hP, hz]
        rw [if_neg (by omega)]
      have hv : (listC m (by omega)).P (b, 0, ()) = ([], b, (go b 0 0).2.2, ()) := by
        simp only [listC, Codec.all, Codec.many, hC, listP, ne_eq, not_true_eq_false, if_false, Int.toNat_zero, h0, not_false_eq_true, if_true]
      rw [hv]
      refine EvTo.bind (a := ([], 0, (go b 0 0).2.2)) ?_ ?_
      · unfold num_List
        exact EvTo.bind (get_ok hb hl) (EvTo.ifp (by simpa using h0) EvTo.pure)
      · exact EvTo.ifp (by simp) (EvTo.pure' (by simp))
  · have hv : (listC m (by omega)).P s = ([], s) := by
      simp only [listC, Codec.all]
      rw [if_pos he]
    rw [hv]
    exact EvTo.ifp (by simpa using he) EvTo.pure
end Go.PrS
